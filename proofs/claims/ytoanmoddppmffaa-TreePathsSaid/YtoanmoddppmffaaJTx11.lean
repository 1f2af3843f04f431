/- What each function of the program comes to, and its walk: laid by a program. -/
import Derived.Test.YtoanmoddppmffaaJTx0
import Derived.Test.YtoanmoddppmffaaJTx10
namespace Go.Proofs.Ytoanmoddppmffaa.T
open Go.RowKit Go.Proofs.YtoanmoddppmffaaW.PrintWords Go.Proofs.YtoanmoddppmffaaW.PrintLast Go.Proofs.YtoanmoddppmffaaW.PrintMore
set_option linter.unusedVariables false
set_option linter.unusedSimpArgs false
mutual
def topiaryref13_element.j0 : Nat → List (S71) → Int → Int → List (S74) → Int → Bool → Option ((List (S74)) × Int × Bool)
 | 0, _, _, _, _, _, _ => none
 | k + 1, x0, x1, x2, x3, x4, x36 => if x36 = true then (some (x3, x1, false)) else (if 0 ≤ x1 then (if x1 < (x0.length : Int) then (if x3.length < 2513169434916 then (topiaryref13_element.l0 k x0 (wrap64 (x1 + 1)) (x3 ++ [(⟨(⟨1, 0, x2, (⟨#[]⟩ : ByteArray)⟩ : S52), (rd_T71 x0 x1).f3⟩ : S74)]) x4 (x3.length : Int) ((rd_T71 x0 x1).f3)) else (none)) else (none)) else (none))
def topiaryref13_element.l0 : Nat → List (S71) → Int → List (S74) → Int → Int → ByteArray → Option ((List (S74)) × Int × Bool)
 | 0, _, _, _, _, _, _ => none
 | k + 1, x0, x1, x3, x4, x13, x14 => if x1 < (x0.length : Int) then (if 0 ≤ x1 then (topiaryref13_element.j2 k x0 x1 x3 x4 x13 x14 (((rd_T71 x0 x1).f0) == 2)) else (none)) else (topiaryref13_element.j2 k x0 x1 x3 x4 x13 x14 false)
def topiaryref13_element.j2 : Nat → List (S71) → Int → List (S74) → Int → Int → ByteArray → Bool → Option ((List (S74)) × Int × Bool)
 | 0, _, _, _, _, _, _, _ => none
 | k + 1, x0, x1, x3, x4, x13, x14, x66 => if x66 = true then (topiaryref13_element.l1 k x0 x1 x3 x4 x13 x14 (wrap64 (x13 + 1))) else (if x1 ≥ (x0.length : Int) then (some (x3, x1, false)) else (if 0 ≤ x1 then (if x1 < (x0.length : Int) then (if ((rd_T71 x0 x1).f0) = 4 then (some (x3, wrap64 (x1 + 1), true)) else (topiaryref13_element.l2 k x0 (wrap64 (x1 + 1)) x3 x4 x13 x14)) else (none)) else (none)))
def topiaryref13_element.l1 : Nat → List (S71) → Int → List (S74) → Int → Int → ByteArray → Int → Option ((List (S74)) × Int × Bool)
 | 0, _, _, _, _, _, _, _ => none
 | k + 1, x0, x1, x3, x4, x13, x14, x15 => if x15 < (x3.length : Int) then (if 0 ≤ x15 then (if 0 ≤ x1 then (if x1 < (x0.length : Int) then (if ((rd_T74 x3 x15).f1).toList = ((rd_T71 x0 x1).f3).toList then (some (x3, x1, false)) else (topiaryref13_element.l1 k x0 x1 x3 x4 x13 x14 (wrap64 (x15 + 1)))) else (none)) else (none)) else (none)) else (if 0 ≤ x1 then (if x1 < (x0.length : Int) then (if x3.length < 2513169434916 then (topiaryref13_element.l0 k x0 (wrap64 (x1 + 1)) (x3 ++ [(⟨(⟨2, 0, x13, (rd_T71 x0 x1).f4⟩ : S52), (rd_T71 x0 x1).f3⟩ : S74)]) x4 x13 x14) else (none)) else (none)) else (none))
def topiaryref13_element.l2 : Nat → List (S71) → Int → List (S74) → Int → Int → ByteArray → Option ((List (S74)) × Int × Bool)
 | 0, _, _, _, _, _, _ => none
 | k + 1, x0, x1, x3, x4, x13, x14 => (topiaryref13_texts.f k x0 x1).bind fun bt237 => (if bt237.1.toList = ([] : List UInt8) then (topiaryref13_element.j5 k x0 x3 x4 x13 x14 bt237.2) else (if x3.length < 2513169434916 then (topiaryref13_element.j5 k x0 (x3 ++ [(⟨(⟨3, (-1), x13, bt237.1⟩ : S52), (⟨#[]⟩ : ByteArray)⟩ : S74)]) x4 x13 x14 bt237.2) else (none)))
def topiaryref13_element.j5 : Nat → List (S71) → List (S74) → Int → Int → ByteArray → Int → Option ((List (S74)) × Int × Bool)
 | 0, _, _, _, _, _, _ => none
 | k + 1, x0, x3, x4, x13, x14, x17 => if x17 ≥ (x0.length : Int) then (some (x3, x17, false)) else (if 0 ≤ x17 then (if x17 < (x0.length : Int) then (if ((rd_T71 x0 x17).f0) = 5 then (some (x3, wrap64 (x17 + 1), (((rd_T71 x0 x17).f3).toList == x14.toList))) else ((topiaryref13_element.f k x0 x17 x13 x3 (wrap64 (x4 + 1))).bind fun bt244 => (if bt244.2.2 = true then (topiaryref13_element.l2 k x0 bt244.2.1 bt244.1 x4 x13 x14) else (some (bt244.1, bt244.2.1, false))))) else (none)) else (none))
def topiaryref13_element.f : Nat → List (S71) → Int → Int → List (S74) → Int → Option ((List (S74)) × Int × Bool)
 | 0, _, _, _, _, _ => none
 | k + 1, l0, a1, a2, l3, a4 => if a1 ≥ (l0.length : Int) then (topiaryref13_element.j0 k l0 a1 a2 l3 a4 true) else (if 0 ≤ a1 then (if a1 < (l0.length : Int) then (if ((rd_T71 l0 a1).f0) = 1 then (topiaryref13_element.j0 k l0 a1 a2 l3 a4 (decide (a4 > 3000))) else (topiaryref13_element.j0 k l0 a1 a2 l3 a4 true)) else (none)) else (none))
end
def topiaryref13_element.T11 : Bool × List (List Nat × List Nat) := (true, [([], []), ([], []), ([0, 1], [0, 1]), ([2], [2]), ([3], [3]), ([], []), ([], []), ([5, 6], [5, 6]), ([7], [7]), ([8], [8]), ([4, 9], [4, 9])])
def topiaryref13_element.B11 : List Nat := [0, 0, 3, 7, 15, 0, 0, 96, 224, 480, 1023]
theorem topiaryref13_element.tab11 : rtab .any (opsOf Try.f38 11) = topiaryref13_element.T11 := by kernel_rfl
theorem topiaryref13_element.bits11 : waitsOk topiaryref13_element.T11.2 topiaryref13_element.B11 = true := by kernel_rfl
def topiaryref13_element.T13 : Bool × List (List Nat × List Nat) := (true, [([], []), ([], []), ([], []), ([], []), ([2, 3], [2, 3]), ([4], [4]), ([5], [5]), ([1, 6], [1, 6]), ([], []), ([], []), ([8, 9], [8, 9]), ([10], [10]), ([11], [11]), ([7, 12], [7, 12]), ([13], [13]), ([0, 14], [0, 14]), ([15, 15, 0, 1, 2, 3, 4, 5, 6, 7, 8, 9, 10, 11, 12, 13, 14, 15], [0, 15])])
def topiaryref13_element.B13 : List Nat := [0, 0, 0, 0, 12, 28, 60, 126, 0, 0, 768, 1792, 3840, 8190, 16382, 32767, 65535]
theorem topiaryref13_element.tab13 : rtab .any (opsOf Try.f38 13) = topiaryref13_element.T13 := by kernel_rfl
theorem topiaryref13_element.bits13 : waitsOk topiaryref13_element.T13.2 topiaryref13_element.B13 = true := by kernel_rfl
def topiaryref13_element.T27 : Bool × List (List Nat × List Nat) := (true, [([], []), ([], []), ([1], [1]), ([], []), ([], []), ([3, 4], [3, 4]), ([5], [5]), ([6], [6]), ([], []), ([7, 8], [7, 8]), ([0, 0], [0]), ([2, 10, 0, 1, 2, 10], [2]), ([9, 11, 0, 1, 2, 3, 4, 5, 6, 7, 8, 9, 10, 11], [9])])
def topiaryref13_element.B27 : List Nat := [0, 0, 2, 0, 0, 24, 56, 120, 0, 504, 1, 1031, 4095]
theorem topiaryref13_element.tab27 : rtab .any (opsOf Try.f38 27) = topiaryref13_element.T27 := by kernel_rfl
theorem topiaryref13_element.bits27 : waitsOk topiaryref13_element.T27.2 topiaryref13_element.B27 = true := by kernel_rfl
set_option maxHeartbeats 8000000 in
set_option maxRecDepth 100000 in
theorem topiaryref13_element.calls (k : Nat) : ∀ (A0 : Option Addr) (c0 : Nat) (l0 : List (S71)) (a1 : Int) (a2 : Int) (P3_ : Nat → Prop) (u9000_ : Value) (l3 : List (S74)) (a4 : Int) (r1 : List (S74)) (r2 : Int) (r3 : Bool) (w0 w : World) (hB : Below w0.heap.size w0 w) (hr0 : ∀ W_, Kept w W_ (fun k_ => P3_ k_) → Kd.C k71 W_ A0 l0.length l0) (hc0 : l0.length ≤ c0) (ho3 : Kd.R k74 74 w w0.heap.size P3_ u9000_ l3) (h : topiaryref13_element.f k l0 a1 a2 l3 a4 = some (r1, r2, r3)),
  Calls Try.prog 38 #[.slice A0 l0.length c0, .int .i64 a1, .int .i64 a2, u9000_, .int .i64 a4] w fun e w' => ∃ v0_ : Value, e = .returned (.tuple #[v0_, .int .i64 r2, .bool r3]) ∧ Kd.R k74 74 w' w0.heap.size (fun k_ => (P3_ k_ ∨ w.heap.size ≤ k_)) v0_ r1 ∧ Below w0.heap.size w0 w' ∧ Kept w w' (fun k_ => P3_ k_) := by
 induction k using Nat.strongRecOn with
 | _ k ih =>
 intro A0 c0 l0 a1 a2 P3_ u9000_ l3 a4 r1 r2 r3 w0 w hB hr0 hc0 ho3 h
 cases k with
 | zero => exact absurd h (by simp [topiaryref13_element.f])
 | succ k =>
 simp only [topiaryref13_element.f] at h
 have hu52 := Try.underlying52
 have hu74 := Try.underlying74
 have HR0 := Aside0.mk hr0
 have HC0 := Aside0.mk hc0
 clear hr0 hc0
 have HO3 := Aside0.mk (show Kd.R k74 74 w w0.heap.size (fun k_ => (P3_ k_ ∨ w.heap.size ≤ k_)) u9000_ l3 from Kd.R_mono ho3 (fun k_ hk => (.inl hk)))
 have HK := Aside0.mk (Kept.refl w (fun k_ => P3_ k_))
 have HW0 := Aside0.mk hB.size
 have HB := Aside0.mk hB
 clear hB
 have H : (if a1 ≥ (l0.length : Int) then (topiaryref13_element.j0 k l0 a1 a2 l3 a4 true) else (if 0 ≤ a1 then (if a1 < (l0.length : Int) then (if ((rd_T71 l0 a1).f0) = 1 then (topiaryref13_element.j0 k l0 a1 a2 l3 a4 (decide (a4 > 3000))) else (topiaryref13_element.j0 k l0 a1 a2 l3 a4 true)) else (none)) else (none))) = some (r1, r2, r3) := h
 clear h
 have HC6 := Aside0.mk H
 clear H
 go_enter Try.func38, Try.ntmps38
 go_upto_region 1 with (fail)
 go_cut [36] (fun v36 wc => ∃ (kq : Nat) (x36_5 : Bool), v36 = .bool x36_5 ∧ Aside0 (topiaryref13_element.j0 kq l0 a1 a2 l3 a4 x36_5 = some (r1, r2, r3)) ∧ Aside0 (kq ≤ k) ∧ Aside0 (Kd.R k74 74 wc w0.heap.size (fun k_ => (P3_ k_ ∨ w.heap.size ≤ k_)) u9000_ l3) ∧ Aside0 (Kept w wc (fun k_ => P3_ k_)) ∧ Aside0 (Below w0.heap.size w0 wc))
 case first =>
  have H := HC6.out
  clear HC6
  by_cases c7 : a1 ≥ (l0.length : Int)
  ·rw [if_pos c7] at H
   have c7b0 : decide ((l0.length : Int) ≤ a1) = true := decide_eq_true c7
   clear c7
   (first | rw [c7b0] | (simp only [i64_w, i32_w]; rw [c7b0]) | skip)
   have H' := Aside0.mk H
   clear H
   go_wp2
   go_meet
   case rel => exact ⟨_, (true), sm_, H', ⟨by first | omega | exact Nat.le_refl _⟩, ⟨rr_ HO3.out⟩, ⟨kk_ HK.out⟩, ⟨bb_ HB.out⟩⟩
  ·rw [if_neg c7] at H
   have c7b0 : decide ((l0.length : Int) ≤ a1) = false := decide_eq_false c7
   clear c7
   (first | rw [c7b0] | (simp only [i64_w, i32_w]; rw [c7b0]) | skip)
   by_cases c8 : 0 ≤ a1
   ·rw [if_pos c8] at H
    have c8b0 : decide (0 ≤ a1) = true := decide_eq_true c8
    clear c8
    by_cases c9 : a1 < (l0.length : Int)
    ·rw [if_pos c9] at H
     have c9b0 : decide (a1 < (l0.length : Int)) = true := decide_eq_true c9
     clear c9
     by_cases c10 : ((rd_T71 l0 a1).f0) = 1
     ·rw [if_pos c10] at H
      have c10b0 : (((rd_T71 l0 a1).f0) == 1) = true := beq_iff_eq.mpr c10
      have c10b1 : (((rd_T71 l0 a1).f0) != 1) = false := bne_eq_false_iff_eq.mpr c10
      clear c10
      have H' := Aside0.mk H
      clear H
      have p223 : 0 ≤ (a1 : Int) := of_decide_eq_true as_
      have q223 : a1 < (l0.length : Int) := of_decide_eq_true as_
      obtain ⟨ad223, e223, hx223_0, hx223_1, hx223_2, hx223_3, hx223_4⟩ := at_T71 (Kd.C_kept_now HR0.out HK.out) a1 p223 q223
      cases e223
      replace p223 := eq_true p223
      replace q223 := eq_true q223
      go_wp2
      go_meet
      case rel => exact ⟨_, (decide (a4 > 3000)), sm_, H', ⟨by first | omega | exact Nat.le_refl _⟩, ⟨rr_ HO3.out⟩, ⟨kk_ HK.out⟩, ⟨bb_ HB.out⟩⟩
     ·rw [if_neg c10] at H
      have c10b0 : (((rd_T71 l0 a1).f0) == 1) = false := beq_eq_false_iff_ne.mpr c10
      have c10b1 : (((rd_T71 l0 a1).f0) != 1) = true := bne_iff_ne.mpr c10
      have H' := Aside0.mk H
      clear H
      have p223 : 0 ≤ (a1 : Int) := of_decide_eq_true as_
      have q223 : a1 < (l0.length : Int) := of_decide_eq_true as_
      obtain ⟨ad223, e223, hx223_0, hx223_1, hx223_2, hx223_3, hx223_4⟩ := at_T71 (Kd.C_kept_now HR0.out HK.out) a1 p223 q223
      cases e223
      replace p223 := eq_true p223
      replace q223 := eq_true q223
      go_wp2
      go_meet
      case rel => exact ⟨_, (true), sm_, H', ⟨by first | omega | exact Nat.le_refl _⟩, ⟨rr_ HO3.out⟩, ⟨kk_ HK.out⟩, ⟨bb_ HB.out⟩⟩
    ·rw [if_neg c9] at H
     exact absurd H (by simp)
   ·rw [if_neg c8] at H
    exact absurd H (by simp)
 case rest =>
  clear HC6
  try clear c1
  try clear p2
  try clear q2
  try clear hx2
  try clear c3
  try clear c7
  try clear c7b0
  try clear c8
  try clear c8b0
  try clear c9
  try clear c9b0
  try clear c10
  try clear c10b0
  try clear c10b1
  try clear hx223_0
  try clear hx223_1
  try clear hx223_2
  try clear hx223_3
  try clear hx223_4
  try clear p223
  try clear q223
  obtain ⟨kq, x36_5, rfl, HA, HJ5, HO_3, HK, HB⟩ := hcut
  cases kq with
  | zero => exact absurd HA.out (by simp [topiaryref13_element.j0])
  | succ kj5 =>
   have H := HA.out
   clear HA
   simp only [topiaryref13_element.j0] at H
   by_cases c11 : x36_5 = true
   ·subst c11
    rw [if_pos rfl] at H
    have H1 := H
    clear H
    have H := H1
    clear H1
    simp only [Option.some.injEq, Prod.mk.injEq] at H
    obtain ⟨rfl, rfl, rfl⟩ := H
    go_wp2
    go_ret3
    exact ⟨_, by first | rfl | (simp [errW_none, errW_some] <;> rfl) | (simp [*, errW_none, errW_some] <;> rfl), rr_ HO_3.out, bb_ HB.out, kk_ HK.out⟩
   ·replace c11 := Bool.eq_false_iff.mpr c11
    subst c11
    rw [if_neg (show ¬ (false = true) by decide)] at H
    have H1 := H
    clear H
    have H := H1
    clear H1
    by_cases c12 : 0 ≤ a1
    ·rw [if_pos c12] at H
     have c12b0 : decide (0 ≤ a1) = true := decide_eq_true c12
     clear c12
     by_cases c13 : a1 < (l0.length : Int)
     ·rw [if_pos c13] at H
      have c13b0 : decide (a1 < (l0.length : Int)) = true := decide_eq_true c13
      clear c13
      by_cases c14 : l3.length < 2513169434916
      ·rw [if_pos c14] at H
       have LMc14 := Aside0.mk c14
       clear c14
       obtain ⟨y225, hy225⟩ : ∃ y_ : List (S74), y_ = (l3 ++ [(⟨(⟨1, 0, a2, (⟨#[]⟩ : ByteArray)⟩ : S52), (rd_T71 l0 a1).f3⟩ : S74)]) := ⟨_, rfl⟩
       replace H : (topiaryref13_element.l0 kj5 l0 (wrap64 (a1 + 1)) y225 a4 (l3.length : Int) ((rd_T71 l0 a1).f3)) = some (r1, r2, r3) := by first | (rw [hy225]; with_reducible exact H) | (have H2_ := (Option.bind_some _ _).symm.trans H; rw [hy225]; with_reducible exact H2_) | (have H2_ := (Option.bind_some _ _).symm.trans H; with_reducible exact H2_) | with_reducible exact H | (rw [hy225]; exact H) | exact H
       have Ny225 := Aside0.mk hy225
       clear hy225
       have H' := Aside0.mk H
       clear H
       obtain ⟨Ao15, co15, eo15⟩ := Kd.R_slice HO_3.out
       subst eo15
       have p224 : 0 ≤ (a1 : Int) := of_decide_eq_true as_
       have q224 : a1 < (l0.length : Int) := of_decide_eq_true as_
       obtain ⟨ad224, e224, hx224_0, hx224_1, hx224_2, hx224_3, hx224_4⟩ := at_T71 (Kd.C_kept_now HR0.out HK.out) a1 p224 q224
       cases e224
       replace p224 := eq_true p224
       replace q224 := eq_true q224
       go_wp2_with (first | ((with_reducible refine gate_builtin (b := .append) (xs := #[.tmp 46, .tmp 51]) rfl ?_); at_builtin; refine Kd.R_append k74 (w0 := w0) w0.heap.size rfl (.tmp 46) (.tmp 51) 63 74 (.agg #[(.int .i64 0), (.int .i64 0), (.int .i64 0), (.string ⟨#[]⟩), (.string ⟨#[]⟩)]) 56 rfl Try.underlying63 info74 rfl (by decide) (by omega) (.slice Ao15 l3.length co15) l3 (⟨(⟨1, 0, a2, (⟨#[]⟩ : ByteArray)⟩ : S52), (rd_T71 l0 a1).f3⟩ : S74) [.int .i64 1, .int .i64 0, .int .i64 a2, .string (⟨#[]⟩ : ByteArray), .string ((rd_T71 l0 a1).f3)] (fun k_ => (P3_ k_ ∨ w.heap.size ≤ k_)) (fun _ => False) rfl rfl ?aP (fun _ hk => hk.elim) ?aF ?aO ?aB ?aS ?aL ?_; (case aP => exact k74_mkM _ _ _ (⟨(⟨1, 0, a2, (⟨#[]⟩ : ByteArray)⟩ : S52), (rd_T71 l0 a1).f3⟩ : S74)); (case aB => exact (bb_ HB.out)); (case aF => exact (fun k_ hk => (.inr (Nat.le_trans (by first | exact HK.out.1 | exact (show Kept w _ (fun k_ => P3_ k_) from kk_ HK.out).1) hk)))); (case aO => exact (rr_ HO_3.out)); (case aS => exact (below_size (bb_ HB.out))); (case aL => have := LMc14.out; omega); intro v226 w16 ho hb hg hat; rw [← Ny225.out] at ho; have n0_ := Aside0.mk (hb); have n1_ := Aside0.mk (Kept.of_grown (S := (fun k_ => P3_ k_)) hg (kk_ HK.out) (fun k_ e_ => (HO_3.out.1 k_ e_))); have n2_ := Aside0.mk (ho); clear HB; clear HK; clear HO_3; have HB := n0_; have HK := n1_; have HO227 := n2_; clear n0_ n1_ n2_; clear ho hb hg hat))
       go_loopg [1, 3] kj5 (fun kq v1 v3 w' => ∃ (x1_2 : Int) (x3_2 : List (S74)), v1 = .int .i64 x1_2 ∧ Aside0 (topiaryref13_element.l0 kq l0 x1_2 x3_2 a4 (l3.length : Int) ((rd_T71 l0 a1).f3) = some (r1, r2, r3)) ∧ Aside0 (kq ≤ kj5) ∧ Aside0 (Kd.R k74 74 w' w0.heap.size (fun k_ => (P3_ k_ ∨ w.heap.size ≤ k_)) v3 x3_2) ∧ Aside0 (Kept w w' (fun k_ => P3_ k_)) ∧ Aside0 (Below w0.heap.size w0 w'))
       case atStart => exact ⟨(wrap64 (a1 + 1)), (y225), sm_, H', ⟨Nat.le_refl _⟩, ⟨rr_ HO227.out⟩, ⟨kk_ HK.out⟩, ⟨bb_ HB.out⟩⟩
       case round =>
        clear H'
        try clear c1
        try clear p2
        try clear q2
        try clear hx2
        try clear c3
        try clear p6
        try clear c7
        try clear c7b0
        try clear c8
        try clear c8b0
        try clear c9
        try clear c9b0
        try clear c10
        try clear c10b0
        try clear c10b1
        try clear c11
        try clear c12
        try clear c12b0
        try clear c13
        try clear c13b0
        try clear c14
        try clear hx223_0
        try clear hx223_1
        try clear hx223_2
        try clear hx223_3
        try clear hx223_4
        try clear hx224_0
        try clear hx224_1
        try clear hx224_2
        try clear hx224_3
        try clear hx224_4
        try clear p2
        try clear p223
        try clear p224
        try clear q2
        try clear q223
        try clear q224
        obtain ⟨x1_2, x3_2, rfl, HA, HK2, HO_3, HK, HB⟩ := hrel
        cases gk with
        | zero => exact absurd HA.out (by simp [topiaryref13_element.l0])
        | succ k2 =>
         have H := HA.out
         clear HA
         simp only [topiaryref13_element.l0] at H
         have HC17 := Aside0.mk H
         clear H
         go_upto_region 7 with (fail)
         go_cut [66] (fun v66 wc => ∃ (kq : Nat) (x66_16 : Bool), v66 = .bool x66_16 ∧ Aside0 (topiaryref13_element.j2 kq l0 x1_2 x3_2 a4 (l3.length : Int) ((rd_T71 l0 a1).f3) x66_16 = some (r1, r2, r3)) ∧ Aside0 (kq ≤ k2) ∧ Aside0 (Kd.R k74 74 wc w0.heap.size (fun k_ => (P3_ k_ ∨ w.heap.size ≤ k_)) u3 x3_2) ∧ Aside0 (Kept w wc (fun k_ => P3_ k_)) ∧ Aside0 (Below w0.heap.size w0 wc))
         case first =>
          have H := HC17.out
          clear HC17
          by_cases c18 : x1_2 < (l0.length : Int)
          ·rw [if_pos c18] at H
           have c18b0 : decide (x1_2 < (l0.length : Int)) = true := decide_eq_true c18
           clear c18
           (first | rw [c18b0] | (simp only [i64_w, i32_w]; rw [c18b0]) | skip)
           by_cases c19 : 0 ≤ x1_2
           ·rw [if_pos c19] at H
            have c19b0 : decide (0 ≤ x1_2) = true := decide_eq_true c19
            clear c19
            have H' := Aside0.mk H
            clear H
            have p228 : 0 ≤ (x1_2 : Int) := of_decide_eq_true as_
            have q228 : x1_2 < (l0.length : Int) := of_decide_eq_true as_
            obtain ⟨ad228, e228, hx228_0, hx228_1, hx228_2, hx228_3, hx228_4⟩ := at_T71 (Kd.C_kept_now HR0.out HK.out) x1_2 p228 q228
            obtain rfl : ad224 = ad228 := (by injection e228)
            replace p228 := eq_true p228
            replace q228 := eq_true q228
            go_wp2
            go_meet
            case rel => exact ⟨_, ((((rd_T71 l0 x1_2).f0) == 2)), sm_, H', ⟨by have := HJ5.out; have := HK2.out; first | omega | exact Nat.le_refl _⟩, ⟨rr_ HO_3.out⟩, ⟨kk_ HK.out⟩, ⟨bb_ HB.out⟩⟩
           ·rw [if_neg c19] at H
            exact absurd H (by simp)
          ·rw [if_neg c18] at H
           have c18b0 : decide (x1_2 < (l0.length : Int)) = false := decide_eq_false c18
           clear c18
           (first | rw [c18b0] | (simp only [i64_w, i32_w]; rw [c18b0]) | skip)
           have H' := Aside0.mk H
           clear H
           go_wp2
           go_meet
           case rel => exact ⟨_, (false), sm_, H', ⟨by have := HJ5.out; have := HK2.out; first | omega | exact Nat.le_refl _⟩, ⟨rr_ HO_3.out⟩, ⟨kk_ HK.out⟩, ⟨bb_ HB.out⟩⟩
         case rest =>
          clear HC17
          try clear c1
          try clear p2
          try clear q2
          try clear hx2
          try clear c3
          try clear p6
          try clear c7
          try clear c7b0
          try clear c8
          try clear c8b0
          try clear c9
          try clear c9b0
          try clear c10
          try clear c10b0
          try clear c10b1
          try clear c11
          try clear c12
          try clear c12b0
          try clear c13
          try clear c13b0
          try clear c14
          try clear c18
          try clear c18b0
          try clear c19
          try clear c19b0
          try clear hx223_0
          try clear hx223_1
          try clear hx223_2
          try clear hx223_3
          try clear hx223_4
          try clear hx224_0
          try clear hx224_1
          try clear hx224_2
          try clear hx224_3
          try clear hx224_4
          try clear hx228_0
          try clear hx228_1
          try clear hx228_2
          try clear hx228_3
          try clear hx228_4
          try clear p2
          try clear p223
          try clear p224
          try clear p228
          try clear p6
          try clear q2
          try clear q223
          try clear q224
          try clear q228
          obtain ⟨kq, x66_16, rfl, HA, HJ16, HO_3, HK, HB⟩ := hcut
          cases kq with
          | zero => exact absurd HA.out (by simp [topiaryref13_element.j2])
          | succ kj16 =>
           have H := HA.out
           clear HA
           simp only [topiaryref13_element.j2] at H
           by_cases c20 : x66_16 = true
           ·subst c20
            rw [if_pos rfl] at H
            have H1 := H
            clear H
            have H := H1
            clear H1
            have H' := Aside0.mk H
            clear H
            go_wp2
            go_loopg [15] kj16 (fun kq v15 w' => ∃ (x15_4 : Int), v15 = .int .i64 x15_4 ∧ Aside0 (topiaryref13_element.l1 kq l0 x1_2 x3_2 a4 (l3.length : Int) ((rd_T71 l0 a1).f3) x15_4 = some (r1, r2, r3)) ∧ Aside0 (kq ≤ kj16) ∧ Aside0 (Kd.R k74 74 w' w0.heap.size (fun k_ => (P3_ k_ ∨ w.heap.size ≤ k_)) u3 x3_2) ∧ Aside0 (Kept w w' (fun k_ => P3_ k_)) ∧ Aside0 (Below w0.heap.size w0 w'))
            case atStart => exact ⟨(wrap64 ((l3.length : Int) + 1)), sm_, H', ⟨Nat.le_refl _⟩, ⟨rr_ HO_3.out⟩, ⟨kk_ HK.out⟩, ⟨bb_ HB.out⟩⟩
            case round =>
             clear H'
             try clear c1
             try clear c2
             try clear p2
             try clear q2
             try clear hx2
             try clear c3
             try clear p6
             try clear c7
             try clear c7b0
             try clear c8
             try clear c8b0
             try clear c9
             try clear c9b0
             try clear c10
             try clear c10b0
             try clear c10b1
             try clear c11
             try clear c12
             try clear c12b0
             try clear c13
             try clear c13b0
             try clear c14
             try clear c18
             try clear c18b0
             try clear c19
             try clear c19b0
             try clear c20
             try clear hx223_0
             try clear hx223_1
             try clear hx223_2
             try clear hx223_3
             try clear hx223_4
             try clear hx224_0
             try clear hx224_1
             try clear hx224_2
             try clear hx224_3
             try clear hx224_4
             try clear hx228_0
             try clear hx228_1
             try clear hx228_2
             try clear hx228_3
             try clear hx228_4
             try clear p2
             try clear p223
             try clear p224
             try clear p228
             try clear p6
             try clear q2
             try clear q223
             try clear q224
             try clear q228
             obtain ⟨x15_4, rfl, HA, HK4, HO_3, HK, HB⟩ := hrel
             cases gk with
             | zero => exact absurd HA.out (by simp [topiaryref13_element.l1])
             | succ k4 =>
              have H := HA.out
              clear HA
              simp only [topiaryref13_element.l1] at H
              by_cases c21 : x15_4 < (x3_2.length : Int)
              ·rw [if_pos c21] at H
               have c21b0 : decide (x15_4 < (x3_2.length : Int)) = true := decide_eq_true c21
               clear c21
               by_cases c22 : 0 ≤ x15_4
               ·rw [if_pos c22] at H
                have c22b0 : decide (0 ≤ x15_4) = true := decide_eq_true c22
                clear c22
                by_cases c23 : 0 ≤ x1_2
                ·rw [if_pos c23] at H
                 have c23b0 : decide (0 ≤ x1_2) = true := decide_eq_true c23
                 clear c23
                 by_cases c24 : x1_2 < (l0.length : Int)
                 ·rw [if_pos c24] at H
                  have c24b0 : decide (x1_2 < (l0.length : Int)) = true := decide_eq_true c24
                  clear c24
                  by_cases c25 : ((rd_T74 x3_2 x15_4).f1).toList = ((rd_T71 l0 x1_2).f3).toList
                  ·rw [if_pos c25] at H
                   have c25b0 : (((rd_T74 x3_2 x15_4).f1).toList == ((rd_T71 l0 x1_2).f3).toList) = true := beq_iff_eq.mpr c25
                   have c25b1 : (((rd_T74 x3_2 x15_4).f1).toList != ((rd_T71 l0 x1_2).f3).toList) = false := bne_eq_false_iff_eq.mpr c25
                   clear c25
                   simp only [Option.some.injEq, Prod.mk.injEq] at H
                   obtain ⟨rfl, rfl, rfl⟩ := H
                   obtain ⟨Ao26, co26, eo26⟩ := Kd.R_slice HO_3.out
                   subst eo26
                   try go_wp2
                   have n0_ := Aside0.mk (Kd.R_drew HO_3.out)
                   have n1_ := Aside0.mk (Kept.drew HK.out)
                   have n2_ := Aside0.mk (below_drew1 HB.out)
                   clear HO_3
                   clear HK
                   clear HB
                   have HO_3 := n0_
                   have HK := n1_
                   have HB := n2_
                   clear n0_ n1_ n2_
                   have p229 : 0 ≤ (x15_4 : Int) := of_decide_eq_true as_
                   have q229 : x15_4 < (x3_2.length : Int) := of_decide_eq_true as_
                   obtain ⟨ad229, e229, hx229_0, hx229_1, hx229_2, hx229_3, hx229_4⟩ := at_T74 (Kd.R_reads' HO_3.out).2.2 x15_4 p229 q229
                   cases e229
                   replace p229 := eq_true p229
                   replace q229 := eq_true q229
                   have p230 : 0 ≤ (x1_2 : Int) := of_decide_eq_true as_
                   have q230 : x1_2 < (l0.length : Int) := of_decide_eq_true as_
                   obtain ⟨ad230, e230, hx230_0, hx230_1, hx230_2, hx230_3, hx230_4⟩ := at_T71 (Kd.C_kept_now HR0.out HK.out) x1_2 p230 q230
                   have hw230_4 := hx230_4
                   have hw230_3 := hx230_3
                   have hw230_2 := hx230_2
                   have hw230_1 := hx230_1
                   have hw230_0 := hx230_0
                   obtain rfl : ad224 = ad230 := (by injection e230)
                   replace p230 := eq_true p230
                   replace q230 := eq_true q230
                   refine start_ (n := 11) (S := fun w' => w'.cell? (ad229.add ((x15_4).toNat * 5)) = some (.int .i64 ((rd_T74 x3_2 x15_4).f0.f0)) ∧ w'.cell? ⟨(ad229.add ((x15_4).toNat * 5)).block, (ad229.add ((x15_4).toNat * 5)).off + 1, none⟩ = some (.int .i64 ((rd_T74 x3_2 x15_4).f0.f1)) ∧ w'.cell? ⟨(ad229.add ((x15_4).toNat * 5)).block, (ad229.add ((x15_4).toNat * 5)).off + 2, none⟩ = some (.int .i64 ((rd_T74 x3_2 x15_4).f0.f2)) ∧ w'.cell? ⟨(ad229.add ((x15_4).toNat * 5)).block, (ad229.add ((x15_4).toNat * 5)).off + 3, none⟩ = some (.string ((rd_T74 x3_2 x15_4).f0.f3)) ∧ w'.cell? ⟨(ad229.add ((x15_4).toNat * 5)).block, (ad229.add ((x15_4).toNat * 5)).off + 4, none⟩ = some (.string ((rd_T74 x3_2 x15_4).f1)) ∧ w'.cell? (ad224.add ((x1_2).toNat * 5)) = some (.int .i64 ((rd_T71 l0 x1_2).f0)) ∧ w'.cell? ⟨(ad224.add ((x1_2).toNat * 5)).block, (ad224.add ((x1_2).toNat * 5)).off + 1, none⟩ = some (.int .i64 ((rd_T71 l0 x1_2).f1)) ∧ w'.cell? ⟨(ad224.add ((x1_2).toNat * 5)).block, (ad224.add ((x1_2).toNat * 5)).off + 2, none⟩ = some (.int .i64 ((rd_T71 l0 x1_2).f2)) ∧ w'.cell? ⟨(ad224.add ((x1_2).toNat * 5)).block, (ad224.add ((x1_2).toNat * 5)).off + 3, none⟩ = some (.string ((rd_T71 l0 x1_2).f3)) ∧ w'.cell? ⟨(ad224.add ((x1_2).toNat * 5)).block, (ad224.add ((x1_2).toNat * 5)).off + 4, none⟩ = some (.string ((rd_T71 l0 x1_2).f4))) (ds := []) #[false, false, false, false, false, false, false, false, false, false, false] (by kernel_rfl) rfl rfl ⟨hx229_0, hx229_1, hx229_2, hx229_3, hx229_4, hx230_0, hx230_1, hx230_2, hx230_3, hx230_4⟩ (fun hHeld => ?_); refine with_tabW topiaryref13_element.tab11 topiaryref13_element.bits11 (fun HT_ HW_ => ?_)
                   generalize wr.drew = w27 at HO_3 HK HB hx229_0 hx229_1 hx229_2 hx229_3 hx229_4 hx230_0 hx230_1 hx230_2 hx230_3 hx230_4 hHeld ⊢
                   refine pure_ (i := 0) (N := some 75) (v := ?_) (a' := ?_) #[true, false, false, false, false, false, false, false, false, false, false] rfl rfl (any_of HT_.out (by kernel_rfl)) (fun _ _ _ h => h) (Or.inl ⟨by rfl, ?_⟩) ?_ ?_
                   rotate_left
                   ·intro w'
                    go_simp
                    with_reducible rfl
                   rotate_left
                   ·simp only [Act.put, List.setIfInBounds_toArray, List.set_cons_zero, List.set_cons_succ, i64_w, i32_w]
                    rfl
                   refine pure_ (i := 1) (N := some 76) (v := ?_) (a' := ?_) #[true, true, false, false, false, false, false, false, false, false, false] rfl rfl (any_of HT_.out (by kernel_rfl)) (fun _ _ _ h => h) (Or.inl ⟨by rfl, ?_⟩) ?_ ?_
                   rotate_left
                   ·intro w'
                    go_simp
                    with_reducible rfl
                   rotate_left
                   ·simp only [Act.put, List.setIfInBounds_toArray, List.set_cons_zero, List.set_cons_succ, i64_w, i32_w]
                    rfl
                   refine pure_ (i := 2) (N := some 77) (v := ?_) (a' := ?_) #[true, true, true, false, false, false, false, false, false, false, false] rfl rfl (any_of HT_.out (by kernel_rfl)) (fun _ _ _ h => h) (Or.inl ⟨by rfl, ?_⟩) ?_ ?_
                   rotate_left
                   ·intro w'
                    go_simp
                    with_reducible rfl
                   rotate_left
                   ·simp only [Act.put, List.setIfInBounds_toArray, List.set_cons_zero, List.set_cons_succ, i64_w, i32_w]
                    rfl
                   refine pure_ (i := 3) (N := some 78) (v := ?_) (a' := ?_) #[true, true, true, true, false, false, false, false, false, false, false] rfl rfl (any_of HT_.out (by kernel_rfl)) (fun _ _ _ h => h) (Or.inl ⟨by rfl, ?_⟩) ?_ ?_
                   rotate_left
                   ·intro w'
                    go_simp
                    with_reducible rfl
                   rotate_left
                   ·simp only [Act.put, List.setIfInBounds_toArray, List.set_cons_zero, List.set_cons_succ, i64_w, i32_w]
                    rfl
                   refine pure_ (i := 5) (N := some 80) (v := ?_) (a' := ?_) #[true, true, true, true, false, true, false, false, false, false, false] rfl rfl (any_of HT_.out (by kernel_rfl)) (fun _ _ _ h => h) (Or.inl ⟨by rfl, ?_⟩) ?_ ?_
                   rotate_left
                   ·intro w'
                    go_simp
                    with_reducible rfl
                   rotate_left
                   ·simp only [Act.put, List.setIfInBounds_toArray, List.set_cons_zero, List.set_cons_succ, i64_w, i32_w]
                    rfl
                   refine pure_ (i := 6) (N := some 81) (v := ?_) (a' := ?_) #[true, true, true, true, false, true, true, false, false, false, false] rfl rfl (any_of HT_.out (by kernel_rfl)) (fun _ _ _ h => h) (Or.inl ⟨by rfl, ?_⟩) ?_ ?_
                   rotate_left
                   ·intro w'
                    go_simp
                    with_reducible rfl
                   rotate_left
                   ·simp only [Act.put, List.setIfInBounds_toArray, List.set_cons_zero, List.set_cons_succ, i64_w, i32_w]
                    rfl
                   refine pure_ (i := 7) (N := some 82) (v := ?_) (a' := ?_) #[true, true, true, true, false, true, true, true, false, false, false] rfl rfl (any_of HT_.out (by kernel_rfl)) (fun _ _ _ h => h) (Or.inl ⟨by rfl, ?_⟩) ?_ ?_
                   rotate_left
                   ·intro w'
                    go_simp
                    with_reducible rfl
                   rotate_left
                   ·simp only [Act.put, List.setIfInBounds_toArray, List.set_cons_zero, List.set_cons_succ, i64_w, i32_w]
                    rfl
                   refine pure_ (i := 8) (N := some 83) (v := ?_) (a' := ?_) #[true, true, true, true, false, true, true, true, true, false, false] rfl rfl (any_of HT_.out (by kernel_rfl)) (fun _ _ _ h => h) (Or.inl ⟨by rfl, ?_⟩) ?_ ?_
                   rotate_left
                   ·intro w'
                    go_simp
                    with_reducible rfl
                   rotate_left
                   ·simp only [Act.put, List.setIfInBounds_toArray, List.set_cons_zero, List.set_cons_succ, i64_w, i32_w]
                    rfl
                   refine take_ (i := 4) (N := some 79) (v := ?_) (a' := ?_) #[true, true, true, true, true, true, true, true, true, false, false] rfl rfl (take_ofW HT_.out HW_.out (by kernel_rfl)) (fun _ _ _ h => h) (Or.inl ⟨by rfl, ?_⟩) hHeld ?_ ?_
                   rotate_left
                   ·rintro w' ⟨s0, s1, s2, s3, s4, s5, s6, s7, s8, s9⟩
                    go_simp
                    with_reducible rfl
                   rotate_left
                   ·simp only [Act.put, List.setIfInBounds_toArray, List.set_cons_zero, List.set_cons_succ, i64_w, i32_w]
                    rfl
                   refine take_ (i := 9) (N := some 84) (v := ?_) (a' := ?_) #[true, true, true, true, true, true, true, true, true, true, false] rfl rfl (take_ofW HT_.out HW_.out (by kernel_rfl)) (fun _ _ _ h => h) (Or.inl ⟨by rfl, ?_⟩) hHeld ?_ ?_
                   rotate_left
                   ·rintro w' ⟨s0, s1, s2, s3, s4, s5, s6, s7, s8, s9⟩
                    go_simp
                    with_reducible rfl
                   rotate_left
                   ·simp only [Act.put, List.setIfInBounds_toArray, List.set_cons_zero, List.set_cons_succ, i64_w, i32_w]
                    rfl
                   refine pure_ (i := 10) (N := some 85) (v := ?_) (a' := ?_) #[true, true, true, true, true, true, true, true, true, true, true] rfl rfl (any_of HT_.out (by kernel_rfl)) (fun _ _ _ h => h) (Or.inl ⟨by rfl, ?_⟩) ?_ ?_
                   rotate_left
                   ·intro w'
                    go_simp
                    with_reducible rfl
                   rotate_left
                   ·simp only [Act.put, List.setIfInBounds_toArray, List.set_cons_zero, List.set_cons_succ, i64_w, i32_w]
                    rfl
                   refine done_ (done_of HT_.out (by kernel_rfl)) ?_
                   try go_wp2
                   go_ret3
                   exact ⟨_, by first | rfl | (simp [errW_none, errW_some] <;> rfl) | (simp [*, errW_none, errW_some] <;> rfl), rr_ HO_3.out, bb_ HB.out, kk_ HK.out⟩
                  ·rw [if_neg c25] at H
                   have c25b0 : (((rd_T74 x3_2 x15_4).f1).toList == ((rd_T71 l0 x1_2).f3).toList) = false := beq_eq_false_iff_ne.mpr c25
                   have c25b1 : (((rd_T74 x3_2 x15_4).f1).toList != ((rd_T71 l0 x1_2).f3).toList) = true := bne_iff_ne.mpr c25
                   have H' := Aside0.mk H
                   clear H
                   obtain ⟨Ao28, co28, eo28⟩ := Kd.R_slice HO_3.out
                   subst eo28
                   try go_wp2
                   have n0_ := Aside0.mk (Kd.R_drew HO_3.out)
                   have n1_ := Aside0.mk (Kept.drew HK.out)
                   have n2_ := Aside0.mk (below_drew1 HB.out)
                   clear HO_3
                   clear HK
                   clear HB
                   have HO_3 := n0_
                   have HK := n1_
                   have HB := n2_
                   clear n0_ n1_ n2_
                   have p229 : 0 ≤ (x15_4 : Int) := of_decide_eq_true as_
                   have q229 : x15_4 < (x3_2.length : Int) := of_decide_eq_true as_
                   obtain ⟨ad229, e229, hx229_0, hx229_1, hx229_2, hx229_3, hx229_4⟩ := at_T74 (Kd.R_reads' HO_3.out).2.2 x15_4 p229 q229
                   cases e229
                   replace p229 := eq_true p229
                   replace q229 := eq_true q229
                   have p230 : 0 ≤ (x1_2 : Int) := of_decide_eq_true as_
                   have q230 : x1_2 < (l0.length : Int) := of_decide_eq_true as_
                   obtain ⟨ad230, e230, hx230_0, hx230_1, hx230_2, hx230_3, hx230_4⟩ := at_T71 (Kd.C_kept_now HR0.out HK.out) x1_2 p230 q230
                   have hw230_4 := hx230_4
                   have hw230_3 := hx230_3
                   have hw230_2 := hx230_2
                   have hw230_1 := hx230_1
                   have hw230_0 := hx230_0
                   obtain rfl : ad224 = ad230 := (by injection e230)
                   replace p230 := eq_true p230
                   replace q230 := eq_true q230
                   refine start_ (n := 11) (S := fun w' => w'.cell? (ad229.add ((x15_4).toNat * 5)) = some (.int .i64 ((rd_T74 x3_2 x15_4).f0.f0)) ∧ w'.cell? ⟨(ad229.add ((x15_4).toNat * 5)).block, (ad229.add ((x15_4).toNat * 5)).off + 1, none⟩ = some (.int .i64 ((rd_T74 x3_2 x15_4).f0.f1)) ∧ w'.cell? ⟨(ad229.add ((x15_4).toNat * 5)).block, (ad229.add ((x15_4).toNat * 5)).off + 2, none⟩ = some (.int .i64 ((rd_T74 x3_2 x15_4).f0.f2)) ∧ w'.cell? ⟨(ad229.add ((x15_4).toNat * 5)).block, (ad229.add ((x15_4).toNat * 5)).off + 3, none⟩ = some (.string ((rd_T74 x3_2 x15_4).f0.f3)) ∧ w'.cell? ⟨(ad229.add ((x15_4).toNat * 5)).block, (ad229.add ((x15_4).toNat * 5)).off + 4, none⟩ = some (.string ((rd_T74 x3_2 x15_4).f1)) ∧ w'.cell? (ad224.add ((x1_2).toNat * 5)) = some (.int .i64 ((rd_T71 l0 x1_2).f0)) ∧ w'.cell? ⟨(ad224.add ((x1_2).toNat * 5)).block, (ad224.add ((x1_2).toNat * 5)).off + 1, none⟩ = some (.int .i64 ((rd_T71 l0 x1_2).f1)) ∧ w'.cell? ⟨(ad224.add ((x1_2).toNat * 5)).block, (ad224.add ((x1_2).toNat * 5)).off + 2, none⟩ = some (.int .i64 ((rd_T71 l0 x1_2).f2)) ∧ w'.cell? ⟨(ad224.add ((x1_2).toNat * 5)).block, (ad224.add ((x1_2).toNat * 5)).off + 3, none⟩ = some (.string ((rd_T71 l0 x1_2).f3)) ∧ w'.cell? ⟨(ad224.add ((x1_2).toNat * 5)).block, (ad224.add ((x1_2).toNat * 5)).off + 4, none⟩ = some (.string ((rd_T71 l0 x1_2).f4))) (ds := []) #[false, false, false, false, false, false, false, false, false, false, false] (by kernel_rfl) rfl rfl ⟨hx229_0, hx229_1, hx229_2, hx229_3, hx229_4, hx230_0, hx230_1, hx230_2, hx230_3, hx230_4⟩ (fun hHeld => ?_); refine with_tabW topiaryref13_element.tab11 topiaryref13_element.bits11 (fun HT_ HW_ => ?_)
                   generalize wr.drew = w29 at HO_3 HK HB hx229_0 hx229_1 hx229_2 hx229_3 hx229_4 hx230_0 hx230_1 hx230_2 hx230_3 hx230_4 hHeld ⊢
                   refine pure_ (i := 0) (N := some 75) (v := ?_) (a' := ?_) #[true, false, false, false, false, false, false, false, false, false, false] rfl rfl (any_of HT_.out (by kernel_rfl)) (fun _ _ _ h => h) (Or.inl ⟨by rfl, ?_⟩) ?_ ?_
                   rotate_left
                   ·intro w'
                    go_simp
                    with_reducible rfl
                   rotate_left
                   ·simp only [Act.put, List.setIfInBounds_toArray, List.set_cons_zero, List.set_cons_succ, i64_w, i32_w]
                    rfl
                   refine pure_ (i := 1) (N := some 76) (v := ?_) (a' := ?_) #[true, true, false, false, false, false, false, false, false, false, false] rfl rfl (any_of HT_.out (by kernel_rfl)) (fun _ _ _ h => h) (Or.inl ⟨by rfl, ?_⟩) ?_ ?_
                   rotate_left
                   ·intro w'
                    go_simp
                    with_reducible rfl
                   rotate_left
                   ·simp only [Act.put, List.setIfInBounds_toArray, List.set_cons_zero, List.set_cons_succ, i64_w, i32_w]
                    rfl
                   refine pure_ (i := 2) (N := some 77) (v := ?_) (a' := ?_) #[true, true, true, false, false, false, false, false, false, false, false] rfl rfl (any_of HT_.out (by kernel_rfl)) (fun _ _ _ h => h) (Or.inl ⟨by rfl, ?_⟩) ?_ ?_
                   rotate_left
                   ·intro w'
                    go_simp
                    with_reducible rfl
                   rotate_left
                   ·simp only [Act.put, List.setIfInBounds_toArray, List.set_cons_zero, List.set_cons_succ, i64_w, i32_w]
                    rfl
                   refine pure_ (i := 3) (N := some 78) (v := ?_) (a' := ?_) #[true, true, true, true, false, false, false, false, false, false, false] rfl rfl (any_of HT_.out (by kernel_rfl)) (fun _ _ _ h => h) (Or.inl ⟨by rfl, ?_⟩) ?_ ?_
                   rotate_left
                   ·intro w'
                    go_simp
                    with_reducible rfl
                   rotate_left
                   ·simp only [Act.put, List.setIfInBounds_toArray, List.set_cons_zero, List.set_cons_succ, i64_w, i32_w]
                    rfl
                   refine pure_ (i := 5) (N := some 80) (v := ?_) (a' := ?_) #[true, true, true, true, false, true, false, false, false, false, false] rfl rfl (any_of HT_.out (by kernel_rfl)) (fun _ _ _ h => h) (Or.inl ⟨by rfl, ?_⟩) ?_ ?_
                   rotate_left
                   ·intro w'
                    go_simp
                    with_reducible rfl
                   rotate_left
                   ·simp only [Act.put, List.setIfInBounds_toArray, List.set_cons_zero, List.set_cons_succ, i64_w, i32_w]
                    rfl
                   refine pure_ (i := 6) (N := some 81) (v := ?_) (a' := ?_) #[true, true, true, true, false, true, true, false, false, false, false] rfl rfl (any_of HT_.out (by kernel_rfl)) (fun _ _ _ h => h) (Or.inl ⟨by rfl, ?_⟩) ?_ ?_
                   rotate_left
                   ·intro w'
                    go_simp
                    with_reducible rfl
                   rotate_left
                   ·simp only [Act.put, List.setIfInBounds_toArray, List.set_cons_zero, List.set_cons_succ, i64_w, i32_w]
                    rfl
                   refine pure_ (i := 7) (N := some 82) (v := ?_) (a' := ?_) #[true, true, true, true, false, true, true, true, false, false, false] rfl rfl (any_of HT_.out (by kernel_rfl)) (fun _ _ _ h => h) (Or.inl ⟨by rfl, ?_⟩) ?_ ?_
                   rotate_left
                   ·intro w'
                    go_simp
                    with_reducible rfl
                   rotate_left
                   ·simp only [Act.put, List.setIfInBounds_toArray, List.set_cons_zero, List.set_cons_succ, i64_w, i32_w]
                    rfl
                   refine pure_ (i := 8) (N := some 83) (v := ?_) (a' := ?_) #[true, true, true, true, false, true, true, true, true, false, false] rfl rfl (any_of HT_.out (by kernel_rfl)) (fun _ _ _ h => h) (Or.inl ⟨by rfl, ?_⟩) ?_ ?_
                   rotate_left
                   ·intro w'
                    go_simp
                    with_reducible rfl
                   rotate_left
                   ·simp only [Act.put, List.setIfInBounds_toArray, List.set_cons_zero, List.set_cons_succ, i64_w, i32_w]
                    rfl
                   refine take_ (i := 4) (N := some 79) (v := ?_) (a' := ?_) #[true, true, true, true, true, true, true, true, true, false, false] rfl rfl (take_ofW HT_.out HW_.out (by kernel_rfl)) (fun _ _ _ h => h) (Or.inl ⟨by rfl, ?_⟩) hHeld ?_ ?_
                   rotate_left
                   ·rintro w' ⟨s0, s1, s2, s3, s4, s5, s6, s7, s8, s9⟩
                    go_simp
                    with_reducible rfl
                   rotate_left
                   ·simp only [Act.put, List.setIfInBounds_toArray, List.set_cons_zero, List.set_cons_succ, i64_w, i32_w]
                    rfl
                   refine take_ (i := 9) (N := some 84) (v := ?_) (a' := ?_) #[true, true, true, true, true, true, true, true, true, true, false] rfl rfl (take_ofW HT_.out HW_.out (by kernel_rfl)) (fun _ _ _ h => h) (Or.inl ⟨by rfl, ?_⟩) hHeld ?_ ?_
                   rotate_left
                   ·rintro w' ⟨s0, s1, s2, s3, s4, s5, s6, s7, s8, s9⟩
                    go_simp
                    with_reducible rfl
                   rotate_left
                   ·simp only [Act.put, List.setIfInBounds_toArray, List.set_cons_zero, List.set_cons_succ, i64_w, i32_w]
                    rfl
                   refine pure_ (i := 10) (N := some 85) (v := ?_) (a' := ?_) #[true, true, true, true, true, true, true, true, true, true, true] rfl rfl (any_of HT_.out (by kernel_rfl)) (fun _ _ _ h => h) (Or.inl ⟨by rfl, ?_⟩) ?_ ?_
                   rotate_left
                   ·intro w'
                    go_simp
                    with_reducible rfl
                   rotate_left
                   ·simp only [Act.put, List.setIfInBounds_toArray, List.set_cons_zero, List.set_cons_succ, i64_w, i32_w]
                    rfl
                   refine done_ (done_of HT_.out (by kernel_rfl)) ?_
                   try go_wp2
                   go_roundg k4
                   case measure => have := HJ5.out; have := HK2.out; have := HJ16.out; have := HK4.out; omega
                   case rel => exact ⟨(wrap64 (x15_4 + 1)), sm_, H', ⟨by have := HJ5.out; have := HK2.out; have := HJ16.out; have := HK4.out; omega⟩, ⟨rr_ HO_3.out⟩, ⟨kk_ HK.out⟩, ⟨bb_ HB.out⟩⟩
                 ·rw [if_neg c24] at H
                  exact absurd H (by simp)
                ·rw [if_neg c23] at H
                 exact absurd H (by simp)
               ·rw [if_neg c22] at H
                exact absurd H (by simp)
              ·rw [if_neg c21] at H
               have c21b0 : decide (x15_4 < (x3_2.length : Int)) = false := decide_eq_false c21
               clear c21
               by_cases c30 : 0 ≤ x1_2
               ·rw [if_pos c30] at H
                have c30b0 : decide (0 ≤ x1_2) = true := decide_eq_true c30
                clear c30
                by_cases c31 : x1_2 < (l0.length : Int)
                ·rw [if_pos c31] at H
                 have c31b0 : decide (x1_2 < (l0.length : Int)) = true := decide_eq_true c31
                 clear c31
                 by_cases c32 : x3_2.length < 2513169434916
                 ·rw [if_pos c32] at H
                  have LMc32 := Aside0.mk c32
                  clear c32
                  obtain ⟨y233, hy233⟩ : ∃ y_ : List (S74), y_ = (x3_2 ++ [(⟨(⟨2, 0, (l3.length : Int), (rd_T71 l0 x1_2).f4⟩ : S52), (rd_T71 l0 x1_2).f3⟩ : S74)]) := ⟨_, rfl⟩
                  replace H : (topiaryref13_element.l0 k4 l0 (wrap64 (x1_2 + 1)) y233 a4 (l3.length : Int) ((rd_T71 l0 a1).f3)) = some (r1, r2, r3) := by first | (rw [hy233]; with_reducible exact H) | (have H2_ := (Option.bind_some _ _).symm.trans H; rw [hy233]; with_reducible exact H2_) | (have H2_ := (Option.bind_some _ _).symm.trans H; with_reducible exact H2_) | with_reducible exact H | (rw [hy233]; exact H) | exact H
                  have Ny233 := Aside0.mk hy233
                  clear hy233
                  have H' := Aside0.mk H
                  clear H
                  obtain ⟨Ao33, co33, eo33⟩ := Kd.R_slice HO_3.out
                  subst eo33
                  try go_wp2
                  have n0_ := Aside0.mk (Kd.R_drew HO_3.out)
                  have n1_ := Aside0.mk (Kept.drew HK.out)
                  have n2_ := Aside0.mk (below_drew1 HB.out)
                  clear HO_3
                  clear HK
                  clear HB
                  have HO_3 := n0_
                  have HK := n1_
                  have HB := n2_
                  clear n0_ n1_ n2_
                  have p231 : 0 ≤ (x1_2 : Int) := of_decide_eq_true as_
                  have q231 : x1_2 < (l0.length : Int) := of_decide_eq_true as_
                  obtain ⟨ad231, e231, hx231_0, hx231_1, hx231_2, hx231_3, hx231_4⟩ := at_T71 (Kd.C_kept_now HR0.out HK.out) x1_2 p231 q231
                  have hw231_4 := hx231_4
                  have hw231_3 := hx231_3
                  have hw231_2 := hx231_2
                  have hw231_1 := hx231_1
                  have hw231_0 := hx231_0
                  obtain rfl : ad224 = ad231 := (by injection e231)
                  replace p231 := eq_true p231
                  replace q231 := eq_true q231
                  have p232 : 0 ≤ (x1_2 : Int) := of_decide_eq_true as_
                  have q232 : x1_2 < (l0.length : Int) := of_decide_eq_true as_
                  obtain ⟨ad232, e232, hx232_0, hx232_1, hx232_2, hx232_3, hx232_4⟩ := at_T71 (Kd.C_kept_now HR0.out HK.out) x1_2 p232 q232
                  have hw232_4 := hx232_4
                  have hw232_3 := hx232_3
                  have hw232_2 := hx232_2
                  have hw232_1 := hx232_1
                  have hw232_0 := hx232_0
                  obtain rfl : ad224 = ad232 := (by injection e232)
                  replace p232 := eq_true p232
                  replace q232 := eq_true q232
                  refine start_ (n := 17) (S := fun w' => w'.cell? (ad224.add ((x1_2).toNat * 5)) = some (.int .i64 ((rd_T71 l0 x1_2).f0)) ∧ w'.cell? ⟨(ad224.add ((x1_2).toNat * 5)).block, (ad224.add ((x1_2).toNat * 5)).off + 1, none⟩ = some (.int .i64 ((rd_T71 l0 x1_2).f1)) ∧ w'.cell? ⟨(ad224.add ((x1_2).toNat * 5)).block, (ad224.add ((x1_2).toNat * 5)).off + 2, none⟩ = some (.int .i64 ((rd_T71 l0 x1_2).f2)) ∧ w'.cell? ⟨(ad224.add ((x1_2).toNat * 5)).block, (ad224.add ((x1_2).toNat * 5)).off + 3, none⟩ = some (.string ((rd_T71 l0 x1_2).f3)) ∧ w'.cell? ⟨(ad224.add ((x1_2).toNat * 5)).block, (ad224.add ((x1_2).toNat * 5)).off + 4, none⟩ = some (.string ((rd_T71 l0 x1_2).f4)) ∧ w'.cell? (ad224.add ((x1_2).toNat * 5)) = some (.int .i64 ((rd_T71 l0 x1_2).f0)) ∧ w'.cell? ⟨(ad224.add ((x1_2).toNat * 5)).block, (ad224.add ((x1_2).toNat * 5)).off + 1, none⟩ = some (.int .i64 ((rd_T71 l0 x1_2).f1)) ∧ w'.cell? ⟨(ad224.add ((x1_2).toNat * 5)).block, (ad224.add ((x1_2).toNat * 5)).off + 2, none⟩ = some (.int .i64 ((rd_T71 l0 x1_2).f2)) ∧ w'.cell? ⟨(ad224.add ((x1_2).toNat * 5)).block, (ad224.add ((x1_2).toNat * 5)).off + 3, none⟩ = some (.string ((rd_T71 l0 x1_2).f3)) ∧ w'.cell? ⟨(ad224.add ((x1_2).toNat * 5)).block, (ad224.add ((x1_2).toNat * 5)).off + 4, none⟩ = some (.string ((rd_T71 l0 x1_2).f4))) (ds := [14, 15]) #[false, false, false, false, false, false, false, false, false, false, false, false, false, false, false, false, false] (by kernel_rfl) rfl rfl ⟨hx231_0, hx231_1, hx231_2, hx231_3, hx231_4, hx232_0, hx232_1, hx232_2, hx232_3, hx232_4⟩ (fun hHeld => ?_); refine with_tabW topiaryref13_element.tab13 topiaryref13_element.bits13 (fun HT_ HW_ => ?_)
                  generalize wr.drew = w34 at HO_3 HK HB hx231_0 hx231_1 hx231_2 hx231_3 hx231_4 hx232_0 hx232_1 hx232_2 hx232_3 hx232_4 hHeld ⊢
                  refine pure_ (i := 0) (N := some 88) (v := ?_) (a' := ?_) #[true, false, false, false, false, false, false, false, false, false, false, false, false, false, false, false, false] rfl rfl (any_of HT_.out (by kernel_rfl)) (fun _ _ _ h => h) (Or.inl ⟨by rfl, ?_⟩) ?_ ?_
                  rotate_left
                  ·intro w'
                   go_simp
                   with_reducible rfl
                  rotate_left
                  ·simp only [Act.put, List.setIfInBounds_toArray, List.set_cons_zero, List.set_cons_succ, i64_w, i32_w]
                   rfl
                  refine pure_ (i := 1) (N := some 89) (v := ?_) (a' := ?_) #[true, true, false, false, false, false, false, false, false, false, false, false, false, false, false, false, false] rfl rfl (any_of HT_.out (by kernel_rfl)) (fun _ _ _ h => h) (Or.inl ⟨by rfl, ?_⟩) ?_ ?_
                  rotate_left
                  ·intro w'
                   go_simp
                   with_reducible rfl
                  rotate_left
                  ·simp only [Act.put, List.setIfInBounds_toArray, List.set_cons_zero, List.set_cons_succ, i64_w, i32_w]
                   rfl
                  refine pure_ (i := 2) (N := some 90) (v := ?_) (a' := ?_) #[true, true, true, false, false, false, false, false, false, false, false, false, false, false, false, false, false] rfl rfl (any_of HT_.out (by kernel_rfl)) (fun _ _ _ h => h) (Or.inl ⟨by rfl, ?_⟩) ?_ ?_
                  rotate_left
                  ·intro w'
                   go_simp
                   with_reducible rfl
                  rotate_left
                  ·simp only [Act.put, List.setIfInBounds_toArray, List.set_cons_zero, List.set_cons_succ, i64_w, i32_w]
                   rfl
                  refine pure_ (i := 3) (N := some 91) (v := ?_) (a' := ?_) #[true, true, true, true, false, false, false, false, false, false, false, false, false, false, false, false, false] rfl rfl (any_of HT_.out (by kernel_rfl)) (fun _ _ _ h => h) (Or.inl ⟨by rfl, ?_⟩) ?_ ?_
                  rotate_left
                  ·intro w'
                   go_simp
                   with_reducible rfl
                  rotate_left
                  ·simp only [Act.put, List.setIfInBounds_toArray, List.set_cons_zero, List.set_cons_succ, i64_w, i32_w]
                   rfl
                  refine pure_ (i := 4) (N := some 92) (v := ?_) (a' := ?_) #[true, true, true, true, true, false, false, false, false, false, false, false, false, false, false, false, false] rfl rfl (any_of HT_.out (by kernel_rfl)) (fun _ _ _ h => h) (Or.inl ⟨by rfl, ?_⟩) ?_ ?_
                  rotate_left
                  ·intro w'
                   go_simp
                   with_reducible rfl
                  rotate_left
                  ·simp only [Act.put, List.setIfInBounds_toArray, List.set_cons_zero, List.set_cons_succ, i64_w, i32_w]
                   rfl
                  refine pure_ (i := 5) (N := some 93) (v := ?_) (a' := ?_) #[true, true, true, true, true, true, false, false, false, false, false, false, false, false, false, false, false] rfl rfl (any_of HT_.out (by kernel_rfl)) (fun _ _ _ h => h) (Or.inl ⟨by rfl, ?_⟩) ?_ ?_
                  rotate_left
                  ·intro w'
                   go_simp
                   with_reducible rfl
                  rotate_left
                  ·simp only [Act.put, List.setIfInBounds_toArray, List.set_cons_zero, List.set_cons_succ, i64_w, i32_w]
                   rfl
                  refine pure_ (i := 8) (N := some 96) (v := ?_) (a' := ?_) #[true, true, true, true, true, true, false, false, true, false, false, false, false, false, false, false, false] rfl rfl (any_of HT_.out (by kernel_rfl)) (fun _ _ _ h => h) (Or.inl ⟨by rfl, ?_⟩) ?_ ?_
                  rotate_left
                  ·intro w'
                   go_simp
                   with_reducible rfl
                  rotate_left
                  ·simp only [Act.put, List.setIfInBounds_toArray, List.set_cons_zero, List.set_cons_succ, i64_w, i32_w]
                   rfl
                  refine pure_ (i := 9) (N := some 97) (v := ?_) (a' := ?_) #[true, true, true, true, true, true, false, false, true, true, false, false, false, false, false, false, false] rfl rfl (any_of HT_.out (by kernel_rfl)) (fun _ _ _ h => h) (Or.inl ⟨by rfl, ?_⟩) ?_ ?_
                  rotate_left
                  ·intro w'
                   go_simp
                   with_reducible rfl
                  rotate_left
                  ·simp only [Act.put, List.setIfInBounds_toArray, List.set_cons_zero, List.set_cons_succ, i64_w, i32_w]
                   rfl
                  refine pure_ (i := 10) (N := some 98) (v := ?_) (a' := ?_) #[true, true, true, true, true, true, false, false, true, true, true, false, false, false, false, false, false] rfl rfl (any_of HT_.out (by kernel_rfl)) (fun _ _ _ h => h) (Or.inl ⟨by rfl, ?_⟩) ?_ ?_
                  rotate_left
                  ·intro w'
                   go_simp
                   with_reducible rfl
                  rotate_left
                  ·simp only [Act.put, List.setIfInBounds_toArray, List.set_cons_zero, List.set_cons_succ, i64_w, i32_w]
                   rfl
                  refine pure_ (i := 11) (N := some 99) (v := ?_) (a' := ?_) #[true, true, true, true, true, true, false, false, true, true, true, true, false, false, false, false, false] rfl rfl (any_of HT_.out (by kernel_rfl)) (fun _ _ _ h => h) (Or.inl ⟨by rfl, ?_⟩) ?_ ?_
                  rotate_left
                  ·intro w'
                   go_simp
                   with_reducible rfl
                  rotate_left
                  ·simp only [Act.put, List.setIfInBounds_toArray, List.set_cons_zero, List.set_cons_succ, i64_w, i32_w]
                   rfl
                  refine take_ (i := 6) (N := some 94) (v := ?_) (a' := ?_) #[true, true, true, true, true, true, true, false, true, true, true, true, false, false, false, false, false] rfl rfl (take_ofW HT_.out HW_.out (by kernel_rfl)) (fun _ _ _ h => h) (Or.inl ⟨by rfl, ?_⟩) hHeld ?_ ?_
                  rotate_left
                  ·rintro w' ⟨s0, s1, s2, s3, s4, s5, s6, s7, s8, s9⟩
                   go_simp
                   with_reducible rfl
                  rotate_left
                  ·simp only [Act.put, List.setIfInBounds_toArray, List.set_cons_zero, List.set_cons_succ, i64_w, i32_w]
                   rfl
                  refine pure_ (i := 7) (N := some 95) (v := ?_) (a' := ?_) #[true, true, true, true, true, true, true, true, true, true, true, true, false, false, false, false, false] rfl rfl (any_of HT_.out (by kernel_rfl)) (fun _ _ _ h => h) (Or.inl ⟨by rfl, ?_⟩) ?_ ?_
                  rotate_left
                  ·intro w'
                   go_simp
                   with_reducible rfl
                  rotate_left
                  ·simp only [Act.put, List.setIfInBounds_toArray, List.set_cons_zero, List.set_cons_succ, i64_w, i32_w]
                   rfl
                  refine take_ (i := 12) (N := some 100) (v := ?_) (a' := ?_) #[true, true, true, true, true, true, true, true, true, true, true, true, true, false, false, false, false] rfl rfl (take_ofW HT_.out HW_.out (by kernel_rfl)) (fun _ _ _ h => h) (Or.inl ⟨by rfl, ?_⟩) hHeld ?_ ?_
                  rotate_left
                  ·rintro w' ⟨s0, s1, s2, s3, s4, s5, s6, s7, s8, s9⟩
                   go_simp
                   with_reducible rfl
                  rotate_left
                  ·simp only [Act.put, List.setIfInBounds_toArray, List.set_cons_zero, List.set_cons_succ, i64_w, i32_w]
                   rfl
                  refine pure_ (i := 13) (N := some 101) (v := ?_) (a' := ?_) #[true, true, true, true, true, true, true, true, true, true, true, true, true, true, false, false, false] rfl rfl (any_of HT_.out (by kernel_rfl)) (fun _ _ _ h => h) (Or.inl ⟨by rfl, ?_⟩) ?_ ?_
                  rotate_left
                  ·intro w'
                   go_simp
                   with_reducible rfl
                  rotate_left
                  ·simp only [Act.put, List.setIfInBounds_toArray, List.set_cons_zero, List.set_cons_succ, i64_w, i32_w]
                   rfl
                  refine last_ (i := 14) (N := some 102) #[true, true, true, true, true, true, true, true, true, true, true, true, true, true, true, false, false] rfl rfl (one_of HT_.out (by kernel_rfl)) (by decide) (fun K hK => ?_)
                  refine value_ (w1 := ?_) (v := ?_) (by rfl) rfl ?_ ?_
                  rotate_left 2
                  ·go_simp
                   constructor
                   ·rfl
                   ·rfl
                  refine hK.out _ _ ?_
                  clear hK K
                  refine norm_ (a' := ?_) ?_ ?_
                  rotate_left
                  ·show Act.put _ (some 102) _ = _
                   simp only [Act.put, List.setIfInBounds_toArray, List.set_cons_zero, List.set_cons_succ, i64_w, i32_w]
                   rfl
                  refine last_ (i := 15) (N := some 103) #[true, true, true, true, true, true, true, true, true, true, true, true, true, true, true, true, false] rfl rfl (one_of HT_.out (by kernel_rfl)) (by decide) (fun K hK => ?_)
                  refine Kd.R_append_step k74 (w0 := w0) w0.heap.size (by rfl) (.tmp 88) (.tmp 102) 63 74 (.agg #[(.int .i64 0), (.int .i64 0), (.int .i64 0), (.string ⟨#[]⟩), (.string ⟨#[]⟩)]) 56 rfl Try.underlying63 info74 rfl (by decide) (by omega) (.slice Ao33 x3_2.length co33) x3_2 (⟨(⟨2, 0, (l3.length : Int), (rd_T71 l0 x1_2).f4⟩ : S52), (rd_T71 l0 x1_2).f3⟩ : S74) [.int .i64 2, .int .i64 0, .int .i64 (l3.length : Int), .string ((rd_T71 l0 x1_2).f4), .string ((rd_T71 l0 x1_2).f3)] (fun k_ => (P3_ k_ ∨ w.heap.size ≤ k_)) (fun _ => False) rfl rfl ?aP (fun _ hk => hk.elim) ?aF ?aO ?aB ?aS ?aL ?_
                  (case aP => exact k74_mkM _ _ _ (⟨(⟨2, 0, (l3.length : Int), (rd_T71 l0 x1_2).f4⟩ : S52), (rd_T71 l0 x1_2).f3⟩ : S74))
                  (case aB => exact (bb_ HB.out))
                  (case aF => exact (fun k_ hk => (.inr (Nat.le_trans (by first | exact HK.out.1 | exact (show Kept w _ (fun k_ => P3_ k_) from kk_ HK.out).1) hk))))
                  (case aO => exact (rr_ HO_3.out))
                  (case aS => exact (below_size (bb_ HB.out)))
                  (case aL => have := LMc32.out; omega)
                  intro v234 w35 ho hb hg hat
                  rw [← Ny233.out] at ho
                  have n0_ := Aside0.mk (hb)
                  have n1_ := Aside0.mk (Kept.of_grown (S := (fun k_ => P3_ k_)) hg (kk_ HK.out) (fun k_ e_ => (HO_3.out.1 k_ e_)))
                  have n2_ := Aside0.mk (ho)
                  clear HB
                  clear HK
                  clear HO_3
                  have HB := n0_
                  have HK := n1_
                  have HO235 := n2_
                  clear n0_ n1_ n2_
                  clear ho hb hg hat
                  refine hK.out _ _ ?_
                  clear hK K
                  refine norm_ (a' := ?_) ?_ ?_
                  rotate_left
                  ·show Act.put _ (some 103) _ = _
                   simp only [Act.put, List.setIfInBounds_toArray, List.set_cons_zero, List.set_cons_succ, i64_w, i32_w]
                   rfl
                  refine pure_ (i := 16) (N := some 3) (v := ?_) (a' := ?_) #[true, true, true, true, true, true, true, true, true, true, true, true, true, true, true, true, true] rfl rfl (any_of HT_.out (by kernel_rfl)) (fun _ _ _ h => h) (Or.inl ⟨by rfl, ?_⟩) ?_ ?_
                  rotate_left
                  ·intro w'
                   go_simp
                   with_reducible rfl
                  rotate_left
                  ·simp only [Act.put, List.setIfInBounds_toArray, List.set_cons_zero, List.set_cons_succ, i64_w, i32_w]
                   rfl
                  refine done_ (done_of HT_.out (by kernel_rfl)) ?_
                  try go_wp2
                  go_roundg k4
                  case measure => have := HJ5.out; have := HK2.out; have := HJ16.out; have := HK4.out; omega
                  case rel => exact ⟨(wrap64 (x1_2 + 1)), (y233), sm_, H', ⟨by have := HJ5.out; have := HK2.out; have := HJ16.out; have := HK4.out; omega⟩, ⟨rr_ HO235.out⟩, ⟨kk_ HK.out⟩, ⟨bb_ HB.out⟩⟩
                 ·rw [if_neg c32] at H
                  exact absurd H (by simp)
                ·rw [if_neg c31] at H
                 exact absurd H (by simp)
               ·rw [if_neg c30] at H
                exact absurd H (by simp)
           ·replace c20 := Bool.eq_false_iff.mpr c20
            subst c20
            rw [if_neg (show ¬ (false = true) by decide)] at H
            have H1 := H
            clear H
            have H := H1
            clear H1
            by_cases c36 : x1_2 ≥ (l0.length : Int)
            ·rw [if_pos c36] at H
             have c36b0 : decide ((l0.length : Int) ≤ x1_2) = true := decide_eq_true c36
             clear c36
             simp only [Option.some.injEq, Prod.mk.injEq] at H
             obtain ⟨rfl, rfl, rfl⟩ := H
             go_wp2
             go_ret3
             exact ⟨_, by first | rfl | (simp [errW_none, errW_some] <;> rfl) | (simp [*, errW_none, errW_some] <;> rfl), rr_ HO_3.out, bb_ HB.out, kk_ HK.out⟩
            ·rw [if_neg c36] at H
             have c36b0 : decide ((l0.length : Int) ≤ x1_2) = false := decide_eq_false c36
             clear c36
             by_cases c37 : 0 ≤ x1_2
             ·rw [if_pos c37] at H
              have c37b0 : decide (0 ≤ x1_2) = true := decide_eq_true c37
              clear c37
              by_cases c38 : x1_2 < (l0.length : Int)
              ·rw [if_pos c38] at H
               have c38b0 : decide (x1_2 < (l0.length : Int)) = true := decide_eq_true c38
               clear c38
               by_cases c39 : ((rd_T71 l0 x1_2).f0) = 4
               ·rw [if_pos c39] at H
                have c39b0 : (((rd_T71 l0 x1_2).f0) == 4) = true := beq_iff_eq.mpr c39
                have c39b1 : (((rd_T71 l0 x1_2).f0) != 4) = false := bne_eq_false_iff_eq.mpr c39
                clear c39
                simp only [Option.some.injEq, Prod.mk.injEq] at H
                obtain ⟨rfl, rfl, rfl⟩ := H
                have p236 : 0 ≤ (x1_2 : Int) := of_decide_eq_true as_
                have q236 : x1_2 < (l0.length : Int) := of_decide_eq_true as_
                obtain ⟨ad236, e236, hx236_0, hx236_1, hx236_2, hx236_3, hx236_4⟩ := at_T71 (Kd.C_kept_now HR0.out HK.out) x1_2 p236 q236
                obtain rfl : ad224 = ad236 := (by injection e236)
                replace p236 := eq_true p236
                replace q236 := eq_true q236
                go_wp2
                go_ret3
                exact ⟨_, by first | rfl | (simp [errW_none, errW_some] <;> rfl) | (simp [*, errW_none, errW_some] <;> rfl), rr_ HO_3.out, bb_ HB.out, kk_ HK.out⟩
               ·rw [if_neg c39] at H
                have c39b0 : (((rd_T71 l0 x1_2).f0) == 4) = false := beq_eq_false_iff_ne.mpr c39
                have c39b1 : (((rd_T71 l0 x1_2).f0) != 4) = true := bne_iff_ne.mpr c39
                have H' := Aside0.mk H
                clear H
                have p236 : 0 ≤ (x1_2 : Int) := of_decide_eq_true as_
                have q236 : x1_2 < (l0.length : Int) := of_decide_eq_true as_
                obtain ⟨ad236, e236, hx236_0, hx236_1, hx236_2, hx236_3, hx236_4⟩ := at_T71 (Kd.C_kept_now HR0.out HK.out) x1_2 p236 q236
                obtain rfl : ad224 = ad236 := (by injection e236)
                replace p236 := eq_true p236
                replace q236 := eq_true q236
                go_wp2
                go_loopg [1, 3] kj16 (fun kq v1 v3 w' => ∃ (x1_4 : Int) (x3_4 : List (S74)), v1 = .int .i64 x1_4 ∧ Aside0 (topiaryref13_element.l2 kq l0 x1_4 x3_4 a4 (l3.length : Int) ((rd_T71 l0 a1).f3) = some (r1, r2, r3)) ∧ Aside0 (kq ≤ kj16) ∧ Aside0 (Kd.R k74 74 w' w0.heap.size (fun k_ => (P3_ k_ ∨ w.heap.size ≤ k_)) v3 x3_4) ∧ Aside0 (Kept w w' (fun k_ => P3_ k_)) ∧ Aside0 (Below w0.heap.size w0 w'))
                case atStart => exact ⟨(wrap64 (x1_2 + 1)), (x3_2), sm_, H', ⟨Nat.le_refl _⟩, ⟨rr_ HO_3.out⟩, ⟨kk_ HK.out⟩, ⟨bb_ HB.out⟩⟩
                case round =>
                 clear H'
                 try clear c2
                 try clear p2
                 try clear q2
                 try clear hx2
                 try clear c3
                 try clear p6
                 try clear c20
                 try clear c21
                 try clear c21b0
                 try clear c22
                 try clear c22b0
                 try clear p22
                 try clear q22
                 try clear hx22
                 try clear c23
                 try clear c23b0
                 try clear p23
                 try clear q23
                 try clear hx23
                 try clear c24
                 try clear c24b0
                 try clear c25
                 try clear c25b0
                 try clear c25b1
                 try clear c30
                 try clear c30b0
                 try clear c31
                 try clear c31b0
                 try clear c32
                 try clear c36
                 try clear c36b0
                 try clear c37
                 try clear c37b0
                 try clear c38
                 try clear c38b0
                 try clear c39
                 try clear c39b0
                 try clear c39b1
                 try clear hx223_3
                 try clear hx223_4
                 try clear hx224_0
                 try clear hx224_1
                 try clear hx224_2
                 try clear hx224_3
                 try clear hx224_4
                 try clear hx228_0
                 try clear hx228_1
                 try clear hx228_2
                 try clear hx228_3
                 try clear hx228_4
                 try clear hx229_0
                 try clear hx229_1
                 try clear hx229_2
                 try clear hx229_3
                 try clear hx229_4
                 try clear hx230_0
                 try clear hx230_1
                 try clear hx230_2
                 try clear hx230_3
                 try clear hx230_4
                 try clear hx231_0
                 try clear hx231_1
                 try clear hx231_2
                 try clear hx231_3
                 try clear hx231_4
                 try clear hx232_0
                 try clear hx232_1
                 try clear hx232_2
                 try clear hx232_3
                 try clear hx232_4
                 try clear hx236_0
                 try clear hx236_1
                 try clear hx236_2
                 try clear hx236_3
                 try clear hx236_4
                 try clear p2
                 try clear p223
                 try clear p224
                 try clear p228
                 try clear p229
                 try clear p230
                 try clear p231
                 try clear p232
                 try clear p236
                 try clear p6
                 try clear q2
                 try clear q223
                 try clear q224
                 try clear q228
                 try clear q229
                 try clear q230
                 try clear q231
                 try clear q232
                 try clear q236
                 obtain ⟨x1_4, x3_4, rfl, HA, HK4, HO_3, HK, HB⟩ := hrel
                 cases gk with
                 | zero => exact absurd HA.out (by simp [topiaryref13_element.l2])
                 | succ k4 =>
                  have H := HA.out
                  clear HA
                  simp only [topiaryref13_element.l2] at H
                  replace H := Option.bind_eq_some_iff.mp H
                  obtain ⟨⟨t237, t238⟩, A400, H⟩ := H
                  try dsimp only at H
                  have A40 := Aside0.mk A400
                  clear A400
                  have HC41 := Aside0.mk H
                  clear H
                  go_upto_if 130 with (first | ((with_reducible refine gate_callee (f := 36) rfl ?_); refine goesL_ (some 126) rfl rfl Try.func36 (by kernel_rfl) rfl #[.slice (some ad224) l0.length c0, .int .i64 x1_4] rfl ar_ ?_; (with_reducible refine (topiaryref13_texts.calls k4 _ _ l0 x1_4 t237 t238 _ ?side1 ?side2 A40.out).mono ?_); (case side1 => exact Kd.C_kept_now HR0.out (kk_ HK.out)); (case side2 => exact HC0.out); rintro e w' ⟨rfl, ⟨nd, rfl⟩⟩; refine ⟨_, rfl, ?_⟩))
                  (try simp only [Act.put, List.setIfInBounds_toArray, List.set_cons_zero, List.set_cons_succ])
                  go_cut [3] (fun v3 wc => ∃ (kq : Nat) (x3_40 : List (S74)), Aside0 (topiaryref13_element.j5 kq l0 x3_40 a4 (l3.length : Int) ((rd_T71 l0 a1).f3) t238 = some (r1, r2, r3)) ∧ Aside0 (kq ≤ k4) ∧ Aside0 (Kd.R k74 74 wc w0.heap.size (fun k_ => (P3_ k_ ∨ w.heap.size ≤ k_)) v3 x3_40) ∧ Aside0 (Kept w wc (fun k_ => P3_ k_)) ∧ Aside0 (Below w0.heap.size w0 wc))
                  case first =>
                   have H := HC41.out
                   clear HC41
                   by_cases c42 : t237.toList = ([] : List UInt8)
                   ·rw [if_pos c42] at H
                    have c42b0 : (t237.toList == ([] : List UInt8)) = true := beq_iff_eq.mpr c42
                    have c42b1 : (t237.toList != ([] : List UInt8)) = false := bne_eq_false_iff_eq.mpr c42
                    clear c42
                    (first | rw [c42b0] | (simp only [i64_w, i32_w]; rw [c42b0]) | skip)
                    (have e_42 : t237.toList.isEmpty = true := by simpa using c42b0)
                    (try rw [e_42])
                    (try simp only [e_42, Bool.not_true, Bool.not_false])
                    have H' := Aside0.mk H
                    clear H
                    go_wp2
                    go_meet
                    case rel => exact ⟨_, (x3_4), H', ⟨by have := HJ5.out; have := HK2.out; have := HJ16.out; have := HK4.out; first | omega | exact Nat.le_refl _⟩, ⟨rr_ HO_3.out⟩, ⟨kk_ HK.out⟩, ⟨bb_ HB.out⟩⟩
                   ·rw [if_neg c42] at H
                    have c42b0 : (t237.toList == ([] : List UInt8)) = false := beq_eq_false_iff_ne.mpr c42
                    have c42b1 : (t237.toList != ([] : List UInt8)) = true := bne_iff_ne.mpr c42
                    (first | rw [c42b0] | (simp only [i64_w, i32_w]; rw [c42b0]) | skip)
                    (have e_42 : t237.toList.isEmpty = false := by simpa using c42b0)
                    (try rw [e_42])
                    (try simp only [e_42, Bool.not_true, Bool.not_false])
                    by_cases c43 : x3_4.length < 2513169434916
                    ·rw [if_pos c43] at H
                     have LMc43 := Aside0.mk c43
                     clear c43
                     obtain ⟨y239, hy239⟩ : ∃ y_ : List (S74), y_ = (x3_4 ++ [(⟨(⟨3, (-1), (l3.length : Int), t237⟩ : S52), (⟨#[]⟩ : ByteArray)⟩ : S74)]) := ⟨_, rfl⟩
                     replace H : (topiaryref13_element.j5 k4 l0 y239 a4 (l3.length : Int) ((rd_T71 l0 a1).f3) t238) = some (r1, r2, r3) := by first | (rw [hy239]; with_reducible exact H) | (have H2_ := (Option.bind_some _ _).symm.trans H; rw [hy239]; with_reducible exact H2_) | (have H2_ := (Option.bind_some _ _).symm.trans H; with_reducible exact H2_) | with_reducible exact H | (rw [hy239]; exact H) | exact H
                     have Ny239 := Aside0.mk hy239
                     clear hy239
                     have H' := Aside0.mk H
                     clear H
                     go_wp2_with (first | ((with_reducible refine gate_builtin (b := .append) (xs := #[.tmp 131, .tmp 136]) rfl ?_); at_builtin; refine Kd.R_append k74 (w0 := w0) w0.heap.size rfl (.tmp 131) (.tmp 136) 63 74 (.agg #[(.int .i64 0), (.int .i64 0), (.int .i64 0), (.string ⟨#[]⟩), (.string ⟨#[]⟩)]) 56 rfl Try.underlying63 info74 rfl (by decide) (by omega) u3 x3_4 (⟨(⟨3, (-1), (l3.length : Int), t237⟩ : S52), (⟨#[]⟩ : ByteArray)⟩ : S74) [.int .i64 3, .int .i64 (-1), .int .i64 (l3.length : Int), .string t237, .string (⟨#[]⟩ : ByteArray)] (fun k_ => (P3_ k_ ∨ w.heap.size ≤ k_)) (fun _ => False) rfl rfl ?aP (fun _ hk => hk.elim) ?aF ?aO ?aB ?aS ?aL ?_; (case aP => exact k74_mkM _ _ _ (⟨(⟨3, (-1), (l3.length : Int), t237⟩ : S52), (⟨#[]⟩ : ByteArray)⟩ : S74)); (case aB => exact (bb_ HB.out)); (case aF => exact (fun k_ hk => (.inr (Nat.le_trans (by first | exact HK.out.1 | exact (show Kept w _ (fun k_ => P3_ k_) from kk_ HK.out).1) hk)))); (case aO => exact (rr_ HO_3.out)); (case aS => exact (below_size (bb_ HB.out))); (case aL => have := LMc43.out; omega); intro v240 w44 ho hb hg hat; rw [← Ny239.out] at ho; have n0_ := Aside0.mk (hb); have n1_ := Aside0.mk (Kept.of_grown (S := (fun k_ => P3_ k_)) hg (kk_ HK.out) (fun k_ e_ => (HO_3.out.1 k_ e_))); have n2_ := Aside0.mk (ho); clear HB; clear HK; clear HO_3; have HB := n0_; have HK := n1_; have HO241 := n2_; clear n0_ n1_ n2_; clear ho hb hg hat))
                     go_meet
                     case rel => exact ⟨_, (y239), H', ⟨by have := HJ5.out; have := HK2.out; have := HJ16.out; have := HK4.out; first | omega | exact Nat.le_refl _⟩, ⟨rr_ HO241.out⟩, ⟨kk_ HK.out⟩, ⟨bb_ HB.out⟩⟩
                    ·rw [if_neg c43] at H
                     exact absurd H (by simp)
                  case rest =>
                   clear HC41
                   try clear c2
                   try clear p2
                   try clear q2
                   try clear hx2
                   try clear c3
                   try clear c4
                   try clear p6
                   try clear c20
                   try clear c21
                   try clear c21b0
                   try clear c22
                   try clear c22b0
                   try clear p22
                   try clear q22
                   try clear hx22
                   try clear c23
                   try clear c23b0
                   try clear p23
                   try clear q23
                   try clear hx23
                   try clear c24
                   try clear c24b0
                   try clear c25
                   try clear c25b0
                   try clear c25b1
                   try clear c30
                   try clear c30b0
                   try clear c31
                   try clear c31b0
                   try clear c32
                   try clear c36
                   try clear c36b0
                   try clear c37
                   try clear c37b0
                   try clear c38
                   try clear c38b0
                   try clear c39
                   try clear c39b0
                   try clear c39b1
                   try clear c42
                   try clear c42b0
                   try clear c42b1
                   try clear c43
                   try clear hx223_3
                   try clear hx223_4
                   try clear hx224_0
                   try clear hx224_1
                   try clear hx224_2
                   try clear hx224_3
                   try clear hx224_4
                   try clear hx228_0
                   try clear hx228_1
                   try clear hx228_2
                   try clear hx228_3
                   try clear hx228_4
                   try clear hx229_0
                   try clear hx229_1
                   try clear hx229_2
                   try clear hx229_3
                   try clear hx229_4
                   try clear hx230_0
                   try clear hx230_1
                   try clear hx230_2
                   try clear hx230_3
                   try clear hx230_4
                   try clear hx231_0
                   try clear hx231_1
                   try clear hx231_2
                   try clear hx231_3
                   try clear hx231_4
                   try clear hx232_0
                   try clear hx232_1
                   try clear hx232_2
                   try clear hx232_3
                   try clear hx232_4
                   try clear hx236_0
                   try clear hx236_1
                   try clear hx236_2
                   try clear hx236_3
                   try clear hx236_4
                   try clear p2
                   try clear p22
                   try clear p223
                   try clear p224
                   try clear p228
                   try clear p229
                   try clear p23
                   try clear p230
                   try clear p231
                   try clear p232
                   try clear p236
                   try clear p6
                   try clear q2
                   try clear q22
                   try clear q223
                   try clear q224
                   try clear q228
                   try clear q229
                   try clear q23
                   try clear q230
                   try clear q231
                   try clear q232
                   try clear q236
                   obtain ⟨kq, x3_40, HA, HJ40, HO_3, HK, HB⟩ := hcut
                   cases kq with
                   | zero => exact absurd HA.out (by simp [topiaryref13_element.j5])
                   | succ kj40 =>
                    have H := HA.out
                    clear HA
                    simp only [topiaryref13_element.j5] at H
                    by_cases c45 : t238 ≥ (l0.length : Int)
                    ·rw [if_pos c45] at H
                     have c45b0 : decide ((l0.length : Int) ≤ t238) = true := decide_eq_true c45
                     clear c45
                     simp only [Option.some.injEq, Prod.mk.injEq] at H
                     obtain ⟨rfl, rfl, rfl⟩ := H
                     go_wp2
                     go_ret3
                     exact ⟨_, by first | rfl | (simp [errW_none, errW_some] <;> rfl) | (simp [*, errW_none, errW_some] <;> rfl), rr_ HO_3.out, bb_ HB.out, kk_ HK.out⟩
                    ·rw [if_neg c45] at H
                     have c45b0 : decide ((l0.length : Int) ≤ t238) = false := decide_eq_false c45
                     clear c45
                     by_cases c46 : 0 ≤ t238
                     ·rw [if_pos c46] at H
                      have c46b0 : decide (0 ≤ t238) = true := decide_eq_true c46
                      clear c46
                      by_cases c47 : t238 < (l0.length : Int)
                      ·rw [if_pos c47] at H
                       have c47b0 : decide (t238 < (l0.length : Int)) = true := decide_eq_true c47
                       clear c47
                       by_cases c48 : ((rd_T71 l0 t238).f0) = 5
                       ·rw [if_pos c48] at H
                        have c48b0 : (((rd_T71 l0 t238).f0) == 5) = true := beq_iff_eq.mpr c48
                        have c48b1 : (((rd_T71 l0 t238).f0) != 5) = false := bne_eq_false_iff_eq.mpr c48
                        clear c48
                        simp only [Option.some.injEq, Prod.mk.injEq] at H
                        obtain ⟨rfl, rfl, rfl⟩ := H
                        have p242 : 0 ≤ (t238 : Int) := of_decide_eq_true as_
                        have q242 : t238 < (l0.length : Int) := of_decide_eq_true as_
                        obtain ⟨ad242, e242, hx242_0, hx242_1, hx242_2, hx242_3, hx242_4⟩ := at_T71 (Kd.C_kept_now HR0.out HK.out) t238 p242 q242
                        obtain rfl : ad224 = ad242 := (by injection e242)
                        replace p242 := eq_true p242
                        replace q242 := eq_true q242
                        try go_wp2
                        have n0_ := Aside0.mk (Kd.R_drew HO_3.out)
                        have n1_ := Aside0.mk (Kept.drew HK.out)
                        have n2_ := Aside0.mk (below_drew1 HB.out)
                        clear HO_3
                        clear HK
                        clear HB
                        have HO_3 := n0_
                        have HK := n1_
                        have HB := n2_
                        clear n0_ n1_ n2_
                        have p243 : 0 ≤ (t238 : Int) := of_decide_eq_true as_
                        have q243 : t238 < (l0.length : Int) := of_decide_eq_true as_
                        obtain ⟨ad243, e243, hx243_0, hx243_1, hx243_2, hx243_3, hx243_4⟩ := at_T71 (Kd.C_kept_now HR0.out HK.out) t238 p243 q243
                        have hw243_4 := hx243_4
                        have hw243_3 := hx243_3
                        have hw243_2 := hx243_2
                        have hw243_1 := hx243_1
                        have hw243_0 := hx243_0
                        obtain rfl : ad224 = ad243 := (by injection e243)
                        replace p243 := eq_true p243
                        replace q243 := eq_true q243
                        refine start_ (n := 13) (S := fun w' => w'.cell? (ad224.add ((t238).toNat * 5)) = some (.int .i64 ((rd_T71 l0 t238).f0)) ∧ w'.cell? ⟨(ad224.add ((t238).toNat * 5)).block, (ad224.add ((t238).toNat * 5)).off + 1, none⟩ = some (.int .i64 ((rd_T71 l0 t238).f1)) ∧ w'.cell? ⟨(ad224.add ((t238).toNat * 5)).block, (ad224.add ((t238).toNat * 5)).off + 2, none⟩ = some (.int .i64 ((rd_T71 l0 t238).f2)) ∧ w'.cell? ⟨(ad224.add ((t238).toNat * 5)).block, (ad224.add ((t238).toNat * 5)).off + 3, none⟩ = some (.string ((rd_T71 l0 t238).f3)) ∧ w'.cell? ⟨(ad224.add ((t238).toNat * 5)).block, (ad224.add ((t238).toNat * 5)).off + 4, none⟩ = some (.string ((rd_T71 l0 t238).f4))) (ds := []) #[false, false, false, false, false, false, false, false, false, false, false, false, false] (by kernel_rfl) rfl rfl ⟨hx243_0, hx243_1, hx243_2, hx243_3, hx243_4⟩ (fun hHeld => ?_); refine with_tabW topiaryref13_element.tab27 topiaryref13_element.bits27 (fun HT_ HW_ => ?_)
                        generalize wc.drew = w49 at HO_3 HK HB hx243_0 hx243_1 hx243_2 hx243_3 hx243_4 hHeld ⊢
                        refine pure_ (i := 0) (N := some 151) (v := ?_) (a' := ?_) #[true, false, false, false, false, false, false, false, false, false, false, false, false] rfl rfl (any_of HT_.out (by kernel_rfl)) (fun _ _ _ h => h) (Or.inl ⟨by rfl, ?_⟩) ?_ ?_
                        rotate_left
                        ·intro w'
                         go_simp
                         with_reducible rfl
                        rotate_left
                        ·simp only [Act.put, List.setIfInBounds_toArray, List.set_cons_zero, List.set_cons_succ, i64_w, i32_w]
                         rfl
                        refine pure_ (i := 1) (N := some 152) (v := ?_) (a' := ?_) #[true, true, false, false, false, false, false, false, false, false, false, false, false] rfl rfl (any_of HT_.out (by kernel_rfl)) (fun _ _ _ h => h) (Or.inl ⟨by rfl, ?_⟩) ?_ ?_
                        rotate_left
                        ·intro w'
                         go_simp
                         with_reducible rfl
                        rotate_left
                        ·simp only [Act.put, List.setIfInBounds_toArray, List.set_cons_zero, List.set_cons_succ, i64_w, i32_w]
                         rfl
                        refine pure_ (i := 2) (N := some 153) (v := ?_) (a' := ?_) #[true, true, true, false, false, false, false, false, false, false, false, false, false] rfl rfl (any_of HT_.out (by kernel_rfl)) (fun _ _ _ h => h) (Or.inl ⟨by rfl, ?_⟩) ?_ ?_
                        rotate_left
                        ·intro w'
                         go_simp
                         with_reducible rfl
                        rotate_left
                        ·simp only [Act.put, List.setIfInBounds_toArray, List.set_cons_zero, List.set_cons_succ, i64_w, i32_w]
                         rfl
                        refine pure_ (i := 3) (N := some 154) (v := ?_) (a' := ?_) #[true, true, true, true, false, false, false, false, false, false, false, false, false] rfl rfl (any_of HT_.out (by kernel_rfl)) (fun _ _ _ h => h) (Or.inl ⟨by rfl, ?_⟩) ?_ ?_
                        rotate_left
                        ·intro w'
                         go_simp
                         with_reducible rfl
                        rotate_left
                        ·simp only [Act.put, List.setIfInBounds_toArray, List.set_cons_zero, List.set_cons_succ, i64_w, i32_w]
                         rfl
                        refine pure_ (i := 4) (N := some 155) (v := ?_) (a' := ?_) #[true, true, true, true, true, false, false, false, false, false, false, false, false] rfl rfl (any_of HT_.out (by kernel_rfl)) (fun _ _ _ h => h) (Or.inl ⟨by rfl, ?_⟩) ?_ ?_
                        rotate_left
                        ·intro w'
                         go_simp
                         with_reducible rfl
                        rotate_left
                        ·simp only [Act.put, List.setIfInBounds_toArray, List.set_cons_zero, List.set_cons_succ, i64_w, i32_w]
                         rfl
                        refine pure_ (i := 5) (N := some 156) (v := ?_) (a' := ?_) #[true, true, true, true, true, true, false, false, false, false, false, false, false] rfl rfl (any_of HT_.out (by kernel_rfl)) (fun _ _ _ h => h) (Or.inl ⟨by rfl, ?_⟩) ?_ ?_
                        rotate_left
                        ·intro w'
                         go_simp
                         with_reducible rfl
                        rotate_left
                        ·simp only [Act.put, List.setIfInBounds_toArray, List.set_cons_zero, List.set_cons_succ, i64_w, i32_w]
                         rfl
                        refine pure_ (i := 6) (N := some 157) (v := ?_) (a' := ?_) #[true, true, true, true, true, true, true, false, false, false, false, false, false] rfl rfl (any_of HT_.out (by kernel_rfl)) (fun _ _ _ h => h) (Or.inl ⟨by rfl, ?_⟩) ?_ ?_
                        rotate_left
                        ·intro w'
                         go_simp
                         with_reducible rfl
                        rotate_left
                        ·simp only [Act.put, List.setIfInBounds_toArray, List.set_cons_zero, List.set_cons_succ, i64_w, i32_w]
                         rfl
                        refine pure_ (i := 8) (N := some 159) (v := ?_) (a' := ?_) #[true, true, true, true, true, true, true, false, true, false, false, false, false] rfl rfl (any_of HT_.out (by kernel_rfl)) (fun _ _ _ h => h) (Or.inl ⟨by rfl, ?_⟩) ?_ ?_
                        rotate_left
                        ·intro w'
                         go_simp
                         with_reducible rfl
                        rotate_left
                        ·simp only [Act.put, List.setIfInBounds_toArray, List.set_cons_zero, List.set_cons_succ, i64_w, i32_w]
                         rfl
                        refine pure_ (i := 10) (N := some 10) (v := ?_) (a' := ?_) #[true, true, true, true, true, true, true, false, true, false, true, false, false] rfl rfl (any_of HT_.out (by kernel_rfl)) (fun _ _ _ h => h) (Or.inl ⟨by rfl, ?_⟩) ?_ ?_
                        rotate_left
                        ·intro w'
                         go_simp
                         with_reducible rfl
                        rotate_left
                        ·simp only [Act.put, List.setIfInBounds_toArray, List.set_cons_zero, List.set_cons_succ, i64_w, i32_w]
                         rfl
                        refine pure_ (i := 11) (N := some 11) (v := ?_) (a' := ?_) #[true, true, true, true, true, true, true, false, true, false, true, true, false] rfl rfl (any_of HT_.out (by kernel_rfl)) (fun _ _ _ h => h) (Or.inl ⟨by rfl, ?_⟩) ?_ ?_
                        rotate_left
                        ·intro w'
                         go_simp
                         with_reducible rfl
                        rotate_left
                        ·simp only [Act.put, List.setIfInBounds_toArray, List.set_cons_zero, List.set_cons_succ, i64_w, i32_w]
                         rfl
                        refine take_ (i := 7) (N := some 158) (v := ?_) (a' := ?_) #[true, true, true, true, true, true, true, true, true, false, true, true, false] rfl rfl (take_ofW HT_.out HW_.out (by kernel_rfl)) (fun _ _ _ h => h) (Or.inl ⟨by rfl, ?_⟩) hHeld ?_ ?_
                        rotate_left
                        ·rintro w' ⟨s0, s1, s2, s3, s4⟩
                         go_simp
                         with_reducible rfl
                        rotate_left
                        ·simp only [Act.put, List.setIfInBounds_toArray, List.set_cons_zero, List.set_cons_succ, i64_w, i32_w]
                         rfl
                        refine pure_ (i := 9) (N := some 160) (v := ?_) (a' := ?_) #[true, true, true, true, true, true, true, true, true, true, true, true, false] rfl rfl (any_of HT_.out (by kernel_rfl)) (fun _ _ _ h => h) (Or.inl ⟨by rfl, ?_⟩) ?_ ?_
                        rotate_left
                        ·intro w'
                         go_simp
                         with_reducible rfl
                        rotate_left
                        ·simp only [Act.put, List.setIfInBounds_toArray, List.set_cons_zero, List.set_cons_succ, i64_w, i32_w]
                         rfl
                        refine pure_ (i := 12) (N := some 12) (v := ?_) (a' := ?_) #[true, true, true, true, true, true, true, true, true, true, true, true, true] rfl rfl (any_of HT_.out (by kernel_rfl)) (fun _ _ _ h => h) (Or.inl ⟨by rfl, ?_⟩) ?_ ?_
                        rotate_left
                        ·intro w'
                         go_simp
                         with_reducible rfl
                        rotate_left
                        ·simp only [Act.put, List.setIfInBounds_toArray, List.set_cons_zero, List.set_cons_succ, i64_w, i32_w]
                         rfl
                        refine done_ (done_of HT_.out (by kernel_rfl)) ?_
                        try go_wp2
                        go_ret3
                        exact ⟨_, by first | rfl | (simp [errW_none, errW_some] <;> rfl) | (simp [*, errW_none, errW_some] <;> rfl), rr_ HO_3.out, bb_ HB.out, kk_ HK.out⟩
                       ·rw [if_neg c48] at H
                        have c48b0 : (((rd_T71 l0 t238).f0) == 5) = false := beq_eq_false_iff_ne.mpr c48
                        have c48b1 : (((rd_T71 l0 t238).f0) != 5) = true := bne_iff_ne.mpr c48
                        replace H := Option.bind_eq_some_iff.mp H
                        obtain ⟨⟨t244, t247, t248⟩, A500, H⟩ := H
                        try dsimp only at H
                        have A50 := Aside0.mk A500
                        clear A500
                        by_cases c51 : t248 = true
                        ·subst c51
                         rw [if_pos rfl] at H
                         have H1 := H
                         clear H
                         have H := H1
                         clear H1
                         have H' := Aside0.mk H
                         clear H
                         have p242 : 0 ≤ (t238 : Int) := of_decide_eq_true as_
                         have q242 : t238 < (l0.length : Int) := of_decide_eq_true as_
                         obtain ⟨ad242, e242, hx242_0, hx242_1, hx242_2, hx242_3, hx242_4⟩ := at_T71 (Kd.C_kept_now HR0.out HK.out) t238 p242 q242
                         obtain rfl : ad224 = ad242 := (by injection e242)
                         replace p242 := eq_true p242
                         replace q242 := eq_true q242
                         obtain ⟨Ao52, co52, eo52⟩ := Kd.R_slice HO_3.out
                         subst eo52
                         go_wp2_with (first | ((with_reducible refine gate_callee (f := 38) rfl ?_); refine goesL_ (some 168) rfl rfl Try.func38 (by kernel_rfl) rfl #[.slice (some ad224) l0.length c0, .int .i64 t238, .int .i64 (l3.length : Int), .slice Ao52 x3_40.length co52, .int .i64 (wrap64 (a4 + 1))] rfl ar_ ?_; (with_reducible refine (ih kj40 (by have := HJ5.out; have := HK2.out; have := HJ16.out; have := HK4.out; have := HJ40.out; omega) _ _ l0 t238 (l3.length : Int) (fun k_ => some k_ = (.slice Ao52 x3_40.length co52 : Value).ownBlock) (.slice Ao52 x3_40.length co52) x3_40 (wrap64 (a4 + 1)) t244 t247 true w0 _ ?side1 ?side2 ?side3 ?side4 A50.out).mono ?_); (case side1 => repeat (first | (with_reducible first | exact HB.out | apply below_alloc | apply pw_below_drewN | apply below_drew1) | exact HB.out)); (case side2 => exact Kd.C_kept_call HR0.out (kk_ HK.out) (fun k_ hs_ => (fun e_ => (HO_3.out.1 k_ e_.symm)) hs_)); (case side3 => exact HC0.out); (case side4 => exact Kd.R_tight rfl HO_3.out); rintro e w53 ⟨v245, rfl, ho0, hb, hkp⟩; refine ⟨_, rfl, ?_⟩; have n0_ := Aside0.mk (Kd.R_mono (ok' := fun k_ => (P3_ k_ ∨ w.heap.size ≤ k_)) ho0 (fun k_ hk_ => Or.elim hk_ (fun hs_ => (HO_3.out.1 k_ (hs_).symm)) (fun hn_ => (.inr (Nat.le_trans (by first | exact HK.out.1 | exact (show Kept w _ (fun k_ => P3_ k_) from kk_ HK.out).1) hn_))))); have n1_ := Aside0.mk (Kept.then_ (S := (fun k_ => P3_ k_)) (kk_ HK.out) hkp (fun k_ hs_ => (fun e_ => (HO_3.out.1 k_ e_.symm)) hs_)); have n2_ := Aside0.mk (hb); clear HK; clear HB; clear HO_3; have HO246 := n0_; have HK := n1_; have HB := n2_; clear n0_ n1_ n2_; (try clear hb); (try clear hkp); (try clear ho0)))
                         go_roundg kj40
                         case measure => have := HJ5.out; have := HK2.out; have := HJ16.out; have := HK4.out; have := HJ40.out; omega
                         case rel => exact ⟨(t247), (t244), sm_, H', ⟨by have := HJ5.out; have := HK2.out; have := HJ16.out; have := HK4.out; have := HJ40.out; omega⟩, ⟨rr_ HO246.out⟩, ⟨kk_ HK.out⟩, ⟨bb_ HB.out⟩⟩
                        ·replace c51 := Bool.eq_false_iff.mpr c51
                         subst c51
                         rw [if_neg (show ¬ (false = true) by decide)] at H
                         have H1 := H
                         clear H
                         have H := H1
                         clear H1
                         simp only [Option.some.injEq, Prod.mk.injEq] at H
                         obtain ⟨rfl, rfl, rfl⟩ := H
                         have p242 : 0 ≤ (t238 : Int) := of_decide_eq_true as_
                         have q242 : t238 < (l0.length : Int) := of_decide_eq_true as_
                         obtain ⟨ad242, e242, hx242_0, hx242_1, hx242_2, hx242_3, hx242_4⟩ := at_T71 (Kd.C_kept_now HR0.out HK.out) t238 p242 q242
                         obtain rfl : ad224 = ad242 := (by injection e242)
                         replace p242 := eq_true p242
                         replace q242 := eq_true q242
                         obtain ⟨Ao54, co54, eo54⟩ := Kd.R_slice HO_3.out
                         subst eo54
                         go_wp2_with (first | ((with_reducible refine gate_callee (f := 38) rfl ?_); refine goesL_ (some 168) rfl rfl Try.func38 (by kernel_rfl) rfl #[.slice (some ad224) l0.length c0, .int .i64 t238, .int .i64 (l3.length : Int), .slice Ao54 x3_40.length co54, .int .i64 (wrap64 (a4 + 1))] rfl ar_ ?_; (with_reducible refine (ih kj40 (by have := HJ5.out; have := HK2.out; have := HJ16.out; have := HK4.out; have := HJ40.out; omega) _ _ l0 t238 (l3.length : Int) (fun k_ => some k_ = (.slice Ao54 x3_40.length co54 : Value).ownBlock) (.slice Ao54 x3_40.length co54) x3_40 (wrap64 (a4 + 1)) t244 t247 false w0 _ ?side1 ?side2 ?side3 ?side4 A50.out).mono ?_); (case side1 => repeat (first | (with_reducible first | exact HB.out | apply below_alloc | apply pw_below_drewN | apply below_drew1) | exact HB.out)); (case side2 => exact Kd.C_kept_call HR0.out (kk_ HK.out) (fun k_ hs_ => (fun e_ => (HO_3.out.1 k_ e_.symm)) hs_)); (case side3 => exact HC0.out); (case side4 => exact Kd.R_tight rfl HO_3.out); rintro e w55 ⟨v245, rfl, ho0, hb, hkp⟩; refine ⟨_, rfl, ?_⟩; have n0_ := Aside0.mk (Kd.R_mono (ok' := fun k_ => (P3_ k_ ∨ w.heap.size ≤ k_)) ho0 (fun k_ hk_ => Or.elim hk_ (fun hs_ => (HO_3.out.1 k_ (hs_).symm)) (fun hn_ => (.inr (Nat.le_trans (by first | exact HK.out.1 | exact (show Kept w _ (fun k_ => P3_ k_) from kk_ HK.out).1) hn_))))); have n1_ := Aside0.mk (Kept.then_ (S := (fun k_ => P3_ k_)) (kk_ HK.out) hkp (fun k_ hs_ => (fun e_ => (HO_3.out.1 k_ e_.symm)) hs_)); have n2_ := Aside0.mk (hb); clear HK; clear HB; clear HO_3; have HO246 := n0_; have HK := n1_; have HB := n2_; clear n0_ n1_ n2_; (try clear hb); (try clear hkp); (try clear ho0)))
                         go_ret3
                         exact ⟨_, by first | rfl | (simp [errW_none, errW_some] <;> rfl) | (simp [*, errW_none, errW_some] <;> rfl), rr_ HO246.out, bb_ HB.out, kk_ HK.out⟩
                      ·rw [if_neg c47] at H
                       exact absurd H (by simp)
                     ·rw [if_neg c46] at H
                      exact absurd H (by simp)
              ·rw [if_neg c38] at H
               exact absurd H (by simp)
             ·rw [if_neg c37] at H
              exact absurd H (by simp)
      ·rw [if_neg c14] at H
       exact absurd H (by simp)
     ·rw [if_neg c13] at H
      exact absurd H (by simp)
    ·rw [if_neg c12] at H
     exact absurd H (by simp)
end Go.Proofs.Ytoanmoddppmffaa.T
