/- What each function of the program comes to, and its walk: laid by a program. -/
import Derived.Test.YtoanmoddppmffaaJTx0
import Derived.Test.YtoanmoddppmffaaJTx4
import Derived.Test.YtoanmoddppmffaaJTx5
import Derived.Test.YtoanmoddppmffaaJTx6
import Derived.Test.YtoanmoddppmffaaJTx8
namespace Go.Proofs.Ytoanmoddppmffaa.T
open Go.RowKit Go.Proofs.YtoanmoddppmffaaW.PrintWords Go.Proofs.YtoanmoddppmffaaW.PrintLast Go.Proofs.YtoanmoddppmffaaW.PrintMore
set_option linter.unusedVariables false
set_option linter.unusedSimpArgs false
def topiaryref12_tag.l0 : Nat → ByteArray → List (S71) → Option ((List (S71)) × Bool)
 | 0, _, _ => none
 | k + 1, x0, x7 => if 0 ≤ (wrap64 ((x7.length : Int) - 1)) then (if (wrap64 ((x7.length : Int) - 1)) < (x7.length : Int) then ((topiaryref11_Skip.f k x0 ((rd_T71 x7 (wrap64 ((x7.length : Int) - 1))).f2)).bind fun t156 => ((topiaryref12_begins.f x0 t156 (⟨#[62]⟩ : ByteArray)).bind fun t157 => (if t157 = true then (if x7.length < 2513169434916 then (some ((x7 ++ [(⟨3, t156, wrap64 (t156 + 1), (⟨#[]⟩ : ByteArray), (⟨#[]⟩ : ByteArray)⟩ : S71)]), true)) else (none)) else ((topiaryref12_begins.f x0 t156 (⟨#[47, 62]⟩ : ByteArray)).bind fun t161 => (if t161 = true then (if x7.length < 2513169434916 then (some ((x7 ++ [(⟨4, t156, wrap64 (t156 + 2), (⟨#[]⟩ : ByteArray), (⟨#[]⟩ : ByteArray)⟩ : S71)]), true)) else (none)) else ((topiaryref12_attr.f k x0 ((rd_T71 x7 (wrap64 ((x7.length : Int) - 1))).f2)).bind fun bt165 => (if bt165.2.2.2.2.2 = true then (if x7.length < 2513169434916 then (topiaryref12_tag.l0 k x0 (x7 ++ [(⟨bt165.1, bt165.2.1, bt165.2.2.1, bt165.2.2.2.1, bt165.2.2.2.2.1⟩ : S71)])) else (none)) else (some (([] : List (S71)), false))))))))) else (none)) else (none)
def topiaryref12_tag.f (k : Nat) (a0 : ByteArray) (a1 : Int) : Option ((List (S71)) × Bool) := (topiaryref11_NameEnd.f k a0 (wrap64 (a1 + 1))).bind fun t151 => (if t151 = (wrap64 (a1 + 1)) then (some (([] : List (S71)), false)) else (if 0 ≤ (wrap64 (a1 + 1)) then (if (wrap64 (a1 + 1)) ≤ t151 then (if t151 ≤ (a0.size : Int) then (topiaryref12_tag.l0 k a0 (([(⟨1, a1, t151, a0.extract ((wrap64 (a1 + 1)) : Int).toNat (t151 : Int).toNat, (⟨#[]⟩ : ByteArray)⟩ : S71)] : List (S71)))) else (none)) else (none)) else (none)))
set_option maxHeartbeats 8000000 in
set_option maxRecDepth 100000 in
theorem topiaryref12_tag.calls (k : Nat) (a0 : ByteArray) (a1 : Int) (r1 : List (S71)) (r2 : Bool) (w : World) (h : topiaryref12_tag.f k a0 a1 = some (r1, r2)) :
  Calls Try.prog 51 #[.string a0, .int .i64 a1] w fun e w' => ∃ v0_ : Value, e = .returned (.tuple #[v0_, .bool r2]) ∧ Kd.R k71 71 w' w.heap.size (fun _ => True) v0_ r1 ∧ Below w.heap.size w w' := by
 have hu71 := Try.underlying71
 have HB := Aside0.mk (Below.refl w.heap.size w)
 have H : ((topiaryref11_NameEnd.f k a0 (wrap64 (a1 + 1))).bind fun t151 => (if t151 = (wrap64 (a1 + 1)) then (some (([] : List (S71)), false)) else (if 0 ≤ (wrap64 (a1 + 1)) then (if (wrap64 (a1 + 1)) ≤ t151 then (if t151 ≤ (a0.size : Int) then (topiaryref12_tag.l0 k a0 (([(⟨1, a1, t151, a0.extract ((wrap64 (a1 + 1)) : Int).toNat (t151 : Int).toNat, (⟨#[]⟩ : ByteArray)⟩ : S71)] : List (S71)))) else (none)) else (none)) else (none)))) = some (r1, r2) := h
 clear h
 replace H := Option.bind_eq_some_iff.mp H
 obtain ⟨t151, A30, H⟩ := H
 try dsimp only at H
 have A3 := Aside0.mk A30
 clear A30
 by_cases c4 : t151 = (wrap64 (a1 + 1))
 ·rw [if_pos c4] at H
  have c4b0 : (t151 == (wrap64 (a1 + 1))) = true := beq_iff_eq.mpr c4
  have c4b1 : (t151 != (wrap64 (a1 + 1))) = false := bne_eq_false_iff_eq.mpr c4
  clear c4
  simp only [Option.some.injEq, Prod.mk.injEq] at H
  obtain ⟨rfl, rfl⟩ := H
  go_enter Try.func51, Try.ntmps51
  go_wp2_with (first | ((with_reducible refine gate_callee (f := 50) rfl ?_); refine goesL_ (some 15) rfl rfl Try.func50 (by kernel_rfl) rfl #[.string a0, .int .i64 (wrap64 (a1 + 1))] rfl ar_ ?_; (with_reducible refine (topiaryref11_NameEnd.calls k a0 (wrap64 (a1 + 1)) t151 _ A3.out).mono ?_); rintro e w' ⟨rfl, ⟨nd, rfl⟩⟩; refine ⟨_, rfl, ?_⟩))
  go_ret2
  exact ⟨_, by first | rfl | (simp [errW_none, errW_some] <;> rfl) | (simp [*, errW_none, errW_some] <;> rfl), by first | exact Kd.R_nil _ _ _ _ _ | exact Kd.N_nil _ _ _ _ _ | exact Kd.V_nil _ _ _ _ _ | exact Kd.Q_nil _ _ _ _ _ | exact Kd.S_nil _ _ _ _ _, bb_ HB.out⟩
 ·rw [if_neg c4] at H
  have c4b0 : (t151 == (wrap64 (a1 + 1))) = false := beq_eq_false_iff_ne.mpr c4
  have c4b1 : (t151 != (wrap64 (a1 + 1))) = true := bne_iff_ne.mpr c4
  obtain ⟨ji5, hji5⟩ : ∃ j_ : Int, (wrap64 (a1 + 1)) = j_ := ⟨_, rfl⟩
  replace H : (if 0 ≤ (ji5) then (if (ji5) ≤ t151 then (if t151 ≤ (a0.size : Int) then (topiaryref12_tag.l0 k a0 (([(⟨1, a1, t151, a0.extract ((ji5) : Int).toNat (t151 : Int).toNat, (⟨#[]⟩ : ByteArray)⟩ : S71)] : List (S71)))) else (none)) else (none)) else (none)) = some (r1, r2) := by first | (rw [hji5] at H; exact H) | (simp only [hji5] at H ⊢; exact H)
  (try rw [hji5] at c4b0)
  (try rw [hji5] at c4b1)
  (try rw [hji5] at A3)
  have hji5w : (IntKind.i64.wrap (a1 + 1)) = ji5 := (i64_w _).trans hji5
  by_cases c6 : 0 ≤ (ji5)
  ·rw [if_pos c6] at H
   have c6b0 := eq_true c6
   have c6b1 : decide (0 ≤ (ji5)) = true := decide_eq_true c6
   clear c6
   by_cases c7 : (ji5) ≤ t151
   ·rw [if_pos c7] at H
    have c7b0 := eq_true c7
    have c7b1 : decide ((ji5) ≤ t151) = true := decide_eq_true c7
    clear c7
    by_cases c8 : t151 ≤ (a0.size : Int)
    ·rw [if_pos c8] at H
     have c8b0 := eq_true c8
     have c8b1 : decide (t151 ≤ (a0.size : Int)) = true := decide_eq_true c8
     clear c8
     obtain ⟨y152, hy152⟩ : ∃ y_ : List (S71), y_ = (([(⟨1, a1, t151, a0.extract ((ji5) : Int).toNat (t151 : Int).toNat, (⟨#[]⟩ : ByteArray)⟩ : S71)] : List (S71))) := ⟨_, rfl⟩
     replace H : (topiaryref12_tag.l0 k a0 y152) = some (r1, r2) := by first | (rw [hy152]; with_reducible exact H) | (have H2_ := (Option.bind_some _ _).symm.trans H; rw [hy152]; with_reducible exact H2_) | (have H2_ := (Option.bind_some _ _).symm.trans H; with_reducible exact H2_) | with_reducible exact H | (rw [hy152]; exact H) | exact H
     have Ny152 := Aside0.mk hy152
     clear hy152
     have H' := Aside0.mk H
     clear H
     go_enter Try.func51, Try.ntmps51
     go_wp2_with (first | ((with_reducible refine gate_callee (f := 50) rfl ?_); refine goesL_ (some 15) rfl rfl Try.func50 (by kernel_rfl) rfl #[.string a0, .int .i64 ji5] rfl (by (try simp only [List.map_toArray, List.map_cons, List.map_nil]); first | done | (simp only [hji5]; rfl) | rfl | (simp only [List.length_drop, List.length_take]; rfl)) ?_; (with_reducible refine (topiaryref11_NameEnd.calls k a0 ji5 t151 _ A3.out).mono ?_); rintro e w' ⟨rfl, ⟨nd, rfl⟩⟩; refine ⟨_, rfl, ?_⟩) | ((with_reducible refine gate_dst (N := 28) rfl ?_); refine Kd.R_lit k71 _ 71 ?hg (N := 28) ?hd (xs := ([(⟨1, a1, t151, a0.extract ((ji5) : Int).toNat (t151 : Int).toNat, (⟨#[]⟩ : ByteArray)⟩ : S71)] : List (S71))) (inner := [.int .i64 1, .int .i64 a1, .int .i64 t151, .string (a0.extract ((ji5) : Int).toNat (t151 : Int).toNat), .string (⟨#[]⟩ : ByteArray)]) (ok := fun _ => True) (okp := fun _ => True) ?hr ?hp (fun _ hk => hk) trivial (Below.refl _ _) (Nat.le_refl _) (by simp) ?_; (case hd => rfl); (case hg => rfl); (case hr => first | (go_simp; done) | (go_simp; rfl)); (case hp => exact (Reps.c5 (show Kd.M k71 _ _ _ (⟨1, a1, t151, a0.extract ((ji5) : Int).toNat (t151 : Int).toNat, (⟨#[]⟩ : ByteArray)⟩ : S71) [.int .i64 1, .int .i64 a1, .int .i64 t151, .string (a0.extract ((ji5) : Int).toNat (t151 : Int).toNat), .string (⟨#[]⟩ : ByteArray)] from (k71_mkM _ _ _ (⟨1, a1, t151, a0.extract ((ji5) : Int).toNat (t151 : Int).toNat, (⟨#[]⟩ : ByteArray)⟩ : S71) )) (Reps.none _ _))); intro v153 w9 ho10 hb hg_ hnew_; clear hg_ hnew_; (first | rw [← Ny152.out] at ho10 | (simp only [Int.reduceToNat] at ho10; rw [← Ny152.out] at ho10)); have n0_ := Aside0.mk (Kd.R_lower ho10 (below_size (bb_ HB.out))); have n1_ := Aside0.mk (below_step (bb_ HB.out) hb); clear HB; have HO154 := n0_; have HB := n1_; clear n0_ n1_; clear hb ho10))
     go_loopg [7] k (fun kq v7 w' => ∃ (x7_1 : List (S71)), Aside0 (topiaryref12_tag.l0 kq a0 x7_1 = some (r1, r2)) ∧ Aside0 (kq ≤ k) ∧ Aside0 (Kd.R k71 71 w' w.heap.size (fun _ => True) v7 x7_1) ∧ Aside0 (Below w.heap.size w w'))
     case atStart => exact ⟨(y152), H', ⟨Nat.le_refl _⟩, ⟨rr_ HO154.out⟩, ⟨bb_ HB.out⟩⟩
     case round =>
      clear H'
      try clear p2
      try clear c4
      try clear c4b0
      try clear c4b1
      try clear c5
      try clear c6
      try clear c6b0
      try clear c6b1
      try clear p6
      try clear c7
      try clear c7b0
      try clear c7b1
      try clear c8
      try clear c8b0
      try clear c8b1
      obtain ⟨x7_1, HA, HK1, HO_7, HB⟩ := hrel
      cases gk with
      | zero => exact absurd HA.out (by simp [topiaryref12_tag.l0])
      | succ k1 =>
       have H := HA.out
       clear HA
       simp only [topiaryref12_tag.l0] at H
       obtain ⟨ji11, hji11⟩ : ∃ j_ : Int, (wrap64 ((x7_1.length : Int) - 1)) = j_ := ⟨_, rfl⟩
       replace H : (if 0 ≤ (ji11) then (if (ji11) < (x7_1.length : Int) then ((topiaryref11_Skip.f k1 a0 ((rd_T71 x7_1 (ji11)).f2)).bind fun t156 => ((topiaryref12_begins.f a0 t156 (⟨#[62]⟩ : ByteArray)).bind fun t157 => (if t157 = true then (if x7_1.length < 2513169434916 then (some ((x7_1 ++ [(⟨3, t156, wrap64 (t156 + 1), (⟨#[]⟩ : ByteArray), (⟨#[]⟩ : ByteArray)⟩ : S71)]), true)) else (none)) else ((topiaryref12_begins.f a0 t156 (⟨#[47, 62]⟩ : ByteArray)).bind fun t161 => (if t161 = true then (if x7_1.length < 2513169434916 then (some ((x7_1 ++ [(⟨4, t156, wrap64 (t156 + 2), (⟨#[]⟩ : ByteArray), (⟨#[]⟩ : ByteArray)⟩ : S71)]), true)) else (none)) else ((topiaryref12_attr.f k1 a0 ((rd_T71 x7_1 (ji11)).f2)).bind fun bt165 => (if bt165.2.2.2.2.2 = true then (if x7_1.length < 2513169434916 then (topiaryref12_tag.l0 k1 a0 (x7_1 ++ [(⟨bt165.1, bt165.2.1, bt165.2.2.1, bt165.2.2.2.1, bt165.2.2.2.2.1⟩ : S71)])) else (none)) else (some (([] : List (S71)), false))))))))) else (none)) else (none)) = some (r1, r2) := by first | (rw [hji11] at H; exact H) | (simp only [hji11] at H ⊢; exact H)
       have hji11w : (IntKind.i64.wrap ((x7_1.length : Int) - 1)) = ji11 := (i64_w _).trans hji11
       by_cases c12 : 0 ≤ (ji11)
       ·rw [if_pos c12] at H
        have c12b0 : decide (0 ≤ (ji11)) = true := decide_eq_true c12
        clear c12
        by_cases c13 : (ji11) < (x7_1.length : Int)
        ·rw [if_pos c13] at H
         have c13b0 : decide ((ji11) < (x7_1.length : Int)) = true := decide_eq_true c13
         clear c13
         replace H := Option.bind_eq_some_iff.mp H
         obtain ⟨t156, A140, H⟩ := H
         try dsimp only at H
         have A14 := Aside0.mk A140
         clear A140
         replace H := Option.bind_eq_some_iff.mp H
         obtain ⟨t157, A150, H⟩ := H
         try dsimp only at H
         have A15 := Aside0.mk A150
         clear A150
         by_cases c16 : t157 = true
         ·subst c16
          rw [if_pos rfl] at H
          have H1 := H
          clear H
          have H := H1
          clear H1
          by_cases c17 : x7_1.length < 2513169434916
          ·rw [if_pos c17] at H
           have LMc17 := Aside0.mk c17
           clear c17
           obtain ⟨y158, hy158⟩ : ∃ y_ : List (S71), y_ = (x7_1 ++ [(⟨3, t156, wrap64 (t156 + 1), (⟨#[]⟩ : ByteArray), (⟨#[]⟩ : ByteArray)⟩ : S71)]) := ⟨_, rfl⟩
           replace H : (some (y158, true)) = some (r1, r2) := by first | (rw [hy158]; with_reducible exact H) | (have H2_ := (Option.bind_some _ _).symm.trans H; rw [hy158]; with_reducible exact H2_) | (have H2_ := (Option.bind_some _ _).symm.trans H; with_reducible exact H2_) | with_reducible exact H | (rw [hy158]; exact H) | exact H
           have Ny158 := Aside0.mk hy158
           clear hy158
           simp only [Option.some.injEq, Prod.mk.injEq] at H
           obtain ⟨rfl, rfl⟩ := H
           obtain ⟨Ao18, co18, eo18⟩ := Kd.R_slice HO_7.out
           subst eo18
           have p155 : 0 ≤ ((ji11) : Int) := of_decide_eq_true as_
           have q155 : (ji11) < (x7_1.length : Int) := of_decide_eq_true as_
           obtain ⟨ad155, e155, hx155_0, hx155_1, hx155_2, hx155_3, hx155_4⟩ := at_T71 (Kd.R_reads' HO_7.out).2.2 (ji11) p155 q155
           cases e155
           replace p155 := eq_true p155
           replace q155 := eq_true q155
           go_wp2_with (first | ((with_reducible refine gate_callee (f := 43) rfl ?_); refine goesL_ (some 38) rfl rfl Try.func43 (by kernel_rfl) rfl #[.string a0, .int .i64 ((rd_T71 x7_1 (ji11)).f2)] rfl (by (try simp only [List.map_toArray, List.map_cons, List.map_nil]); first | done | (simp only [hji11]; rfl) | rfl | (simp only [List.length_drop, List.length_take]; rfl)) ?_; (with_reducible refine (topiaryref11_Skip.calls k1 a0 ((rd_T71 x7_1 (ji11)).f2) t156 _ A14.out).mono ?_); rintro e w' ⟨rfl, ⟨nd, rfl⟩⟩; refine ⟨_, rfl, ?_⟩) | ((with_reducible refine gate_callee (f := 48) rfl ?_); refine goesL_ (some 41) rfl rfl Try.func48 (by kernel_rfl) rfl #[.string a0, .int .i64 t156, .string (⟨#[62]⟩ : ByteArray)] rfl ar_ ?_; (with_reducible refine (topiaryref12_begins.calls a0 t156 (⟨#[62]⟩ : ByteArray) true _ A15.out).mono ?_); rintro e w' ⟨rfl, ⟨nd, rfl⟩⟩; refine ⟨_, rfl, ?_⟩) | ((with_reducible refine gate_builtin (b := .append) (xs := #[.tmp 42, .tmp 47]) rfl ?_); at_builtin; refine Kd.R_append k71 (w0 := w) w.heap.size rfl (.tmp 42) (.tmp 47) 58 71 (.agg #[(.int .i64 0), (.int .i64 0), (.int .i64 0), (.string ⟨#[]⟩), (.string ⟨#[]⟩)]) 56 rfl Try.underlying58 info71 rfl (by decide) (by omega) (.slice (some ad155) x7_1.length co18) x7_1 (⟨3, t156, wrap64 (t156 + 1), (⟨#[]⟩ : ByteArray), (⟨#[]⟩ : ByteArray)⟩ : S71) [.int .i64 3, .int .i64 t156, .int .i64 (wrap64 (t156 + 1)), .string (⟨#[]⟩ : ByteArray), .string (⟨#[]⟩ : ByteArray)] (fun _ => True) (fun _ => False) rfl rfl ?aP (fun _ hk => hk.elim) ?aF ?aO ?aB ?aS ?aL ?_; (case aP => exact k71_mkM _ _ _ (⟨3, t156, wrap64 (t156 + 1), (⟨#[]⟩ : ByteArray), (⟨#[]⟩ : ByteArray)⟩ : S71)); (case aB => exact (bb_ HB.out)); (case aF => exact (fun _ _ => trivial)); (case aO => exact (rr_ HO_7.out)); (case aS => exact (below_size (bb_ HB.out))); (case aL => have := LMc17.out; omega); intro v159 w19 ho hb hg hat; rw [← Ny158.out] at ho; have n0_ := Aside0.mk (hb); have n1_ := Aside0.mk (ho); clear HB; clear HO_7; have HB := n0_; have HO160 := n1_; clear n0_ n1_; clear ho hb hg hat))
           go_ret2
           exact ⟨_, by first | rfl | (simp [errW_none, errW_some] <;> rfl) | (simp only [← hji5, ← hji11]; first | rfl | (simp [errW_none, errW_some] <;> rfl)) | (simp [*, errW_none, errW_some] <;> rfl), rr_ HO160.out, bb_ HB.out⟩
          ·rw [if_neg c17] at H
           exact absurd H (by simp)
         ·replace c16 := Bool.eq_false_iff.mpr c16
          subst c16
          rw [if_neg (show ¬ (false = true) by decide)] at H
          have H1 := H
          clear H
          have H := H1
          clear H1
          replace H := Option.bind_eq_some_iff.mp H
          obtain ⟨t161, A200, H⟩ := H
          try dsimp only at H
          have A20 := Aside0.mk A200
          clear A200
          by_cases c21 : t161 = true
          ·subst c21
           rw [if_pos rfl] at H
           have H1 := H
           clear H
           have H := H1
           clear H1
           by_cases c22 : x7_1.length < 2513169434916
           ·rw [if_pos c22] at H
            have LMc22 := Aside0.mk c22
            clear c22
            obtain ⟨y162, hy162⟩ : ∃ y_ : List (S71), y_ = (x7_1 ++ [(⟨4, t156, wrap64 (t156 + 2), (⟨#[]⟩ : ByteArray), (⟨#[]⟩ : ByteArray)⟩ : S71)]) := ⟨_, rfl⟩
            replace H : (some (y162, true)) = some (r1, r2) := by first | (rw [hy162]; with_reducible exact H) | (have H2_ := (Option.bind_some _ _).symm.trans H; rw [hy162]; with_reducible exact H2_) | (have H2_ := (Option.bind_some _ _).symm.trans H; with_reducible exact H2_) | with_reducible exact H | (rw [hy162]; exact H) | exact H
            have Ny162 := Aside0.mk hy162
            clear hy162
            simp only [Option.some.injEq, Prod.mk.injEq] at H
            obtain ⟨rfl, rfl⟩ := H
            obtain ⟨Ao23, co23, eo23⟩ := Kd.R_slice HO_7.out
            subst eo23
            have p155 : 0 ≤ ((ji11) : Int) := of_decide_eq_true as_
            have q155 : (ji11) < (x7_1.length : Int) := of_decide_eq_true as_
            obtain ⟨ad155, e155, hx155_0, hx155_1, hx155_2, hx155_3, hx155_4⟩ := at_T71 (Kd.R_reads' HO_7.out).2.2 (ji11) p155 q155
            cases e155
            replace p155 := eq_true p155
            replace q155 := eq_true q155
            go_wp2_with (first | ((with_reducible refine gate_callee (f := 43) rfl ?_); refine goesL_ (some 38) rfl rfl Try.func43 (by kernel_rfl) rfl #[.string a0, .int .i64 ((rd_T71 x7_1 (ji11)).f2)] rfl (by (try simp only [List.map_toArray, List.map_cons, List.map_nil]); first | done | (simp only [hji11]; rfl) | rfl | (simp only [List.length_drop, List.length_take]; rfl)) ?_; (with_reducible refine (topiaryref11_Skip.calls k1 a0 ((rd_T71 x7_1 (ji11)).f2) t156 _ A14.out).mono ?_); rintro e w' ⟨rfl, ⟨nd, rfl⟩⟩; refine ⟨_, rfl, ?_⟩) | ((with_reducible refine gate_callee (f := 48) rfl ?_); refine goesL_ (some 41) rfl rfl Try.func48 (by kernel_rfl) rfl #[.string a0, .int .i64 t156, .string (⟨#[62]⟩ : ByteArray)] rfl ar_ ?_; (with_reducible refine (topiaryref12_begins.calls a0 t156 (⟨#[62]⟩ : ByteArray) false _ A15.out).mono ?_); rintro e w' ⟨rfl, ⟨nd, rfl⟩⟩; refine ⟨_, rfl, ?_⟩) | ((with_reducible refine gate_callee (f := 48) rfl ?_); refine goesL_ (some 51) rfl rfl Try.func48 (by kernel_rfl) rfl #[.string a0, .int .i64 t156, .string (⟨#[47, 62]⟩ : ByteArray)] rfl ar_ ?_; (with_reducible refine (topiaryref12_begins.calls a0 t156 (⟨#[47, 62]⟩ : ByteArray) true _ A20.out).mono ?_); rintro e w' ⟨rfl, ⟨nd, rfl⟩⟩; refine ⟨_, rfl, ?_⟩) | ((with_reducible refine gate_builtin (b := .append) (xs := #[.tmp 52, .tmp 57]) rfl ?_); at_builtin; refine Kd.R_append k71 (w0 := w) w.heap.size rfl (.tmp 52) (.tmp 57) 58 71 (.agg #[(.int .i64 0), (.int .i64 0), (.int .i64 0), (.string ⟨#[]⟩), (.string ⟨#[]⟩)]) 56 rfl Try.underlying58 info71 rfl (by decide) (by omega) (.slice (some ad155) x7_1.length co23) x7_1 (⟨4, t156, wrap64 (t156 + 2), (⟨#[]⟩ : ByteArray), (⟨#[]⟩ : ByteArray)⟩ : S71) [.int .i64 4, .int .i64 t156, .int .i64 (wrap64 (t156 + 2)), .string (⟨#[]⟩ : ByteArray), .string (⟨#[]⟩ : ByteArray)] (fun _ => True) (fun _ => False) rfl rfl ?aP (fun _ hk => hk.elim) ?aF ?aO ?aB ?aS ?aL ?_; (case aP => exact k71_mkM _ _ _ (⟨4, t156, wrap64 (t156 + 2), (⟨#[]⟩ : ByteArray), (⟨#[]⟩ : ByteArray)⟩ : S71)); (case aB => exact (bb_ HB.out)); (case aF => exact (fun _ _ => trivial)); (case aO => exact (rr_ HO_7.out)); (case aS => exact (below_size (bb_ HB.out))); (case aL => have := LMc22.out; omega); intro v163 w24 ho hb hg hat; rw [← Ny162.out] at ho; have n0_ := Aside0.mk (hb); have n1_ := Aside0.mk (ho); clear HB; clear HO_7; have HB := n0_; have HO164 := n1_; clear n0_ n1_; clear ho hb hg hat))
            go_ret2
            exact ⟨_, by first | rfl | (simp [errW_none, errW_some] <;> rfl) | (simp only [← hji5, ← hji11]; first | rfl | (simp [errW_none, errW_some] <;> rfl)) | (simp [*, errW_none, errW_some] <;> rfl), rr_ HO164.out, bb_ HB.out⟩
           ·rw [if_neg c22] at H
            exact absurd H (by simp)
          ·replace c21 := Bool.eq_false_iff.mpr c21
           subst c21
           rw [if_neg (show ¬ (false = true) by decide)] at H
           have H1 := H
           clear H
           have H := H1
           clear H1
           replace H := Option.bind_eq_some_iff.mp H
           obtain ⟨⟨t165, t166, t167, t168, t169, t170⟩, A250, H⟩ := H
           try dsimp only at H
           have A25 := Aside0.mk A250
           clear A250
           by_cases c26 : t170 = true
           ·subst c26
            rw [if_pos rfl] at H
            have H1 := H
            clear H
            have H := H1
            clear H1
            by_cases c27 : x7_1.length < 2513169434916
            ·rw [if_pos c27] at H
             have LMc27 := Aside0.mk c27
             clear c27
             obtain ⟨y172, hy172⟩ : ∃ y_ : List (S71), y_ = (x7_1 ++ [(⟨t165, t166, t167, t168, t169⟩ : S71)]) := ⟨_, rfl⟩
             replace H : (topiaryref12_tag.l0 k1 a0 y172) = some (r1, r2) := by first | (rw [hy172]; with_reducible exact H) | (have H2_ := (Option.bind_some _ _).symm.trans H; rw [hy172]; with_reducible exact H2_) | (have H2_ := (Option.bind_some _ _).symm.trans H; with_reducible exact H2_) | with_reducible exact H | (rw [hy172]; exact H) | exact H
             have Ny172 := Aside0.mk hy172
             clear hy172
             have H' := Aside0.mk H
             clear H
             obtain ⟨Ao28, co28, eo28⟩ := Kd.R_slice HO_7.out
             subst eo28
             have p155 : 0 ≤ ((ji11) : Int) := of_decide_eq_true as_
             have q155 : (ji11) < (x7_1.length : Int) := of_decide_eq_true as_
             obtain ⟨ad155, e155, hx155_0, hx155_1, hx155_2, hx155_3, hx155_4⟩ := at_T71 (Kd.R_reads' HO_7.out).2.2 (ji11) p155 q155
             cases e155
             replace p155 := eq_true p155
             replace q155 := eq_true q155
             go_wp2_with (first | ((with_reducible refine gate_callee (f := 43) rfl ?_); refine goesL_ (some 38) rfl rfl Try.func43 (by kernel_rfl) rfl #[.string a0, .int .i64 ((rd_T71 x7_1 (ji11)).f2)] rfl (by (try simp only [List.map_toArray, List.map_cons, List.map_nil]); first | done | (simp only [hji11]; rfl) | rfl | (simp only [List.length_drop, List.length_take]; rfl)) ?_; (with_reducible refine (topiaryref11_Skip.calls k1 a0 ((rd_T71 x7_1 (ji11)).f2) t156 _ A14.out).mono ?_); rintro e w' ⟨rfl, ⟨nd, rfl⟩⟩; refine ⟨_, rfl, ?_⟩; (try (rw [drewN_self wr]; generalize hq_ : World.drewN wr _ = wr; have n0_ : Aside0 (Kd.R k71 71 wr w.heap.size (fun _ => True) (.slice (some ad155) x7_1.length co28) x7_1) := ⟨by rw [← hq_]; exact (rr_ HO_7.out)⟩; have n1_ : Aside0 (Below w.heap.size w wr) := ⟨by rw [← hq_]; exact (bb_ HB.out)⟩; clear HO_7 HB hq_; have HO_7 := n0_; have HB := n1_; clear n0_ n1_))) | ((with_reducible refine gate_callee (f := 48) rfl ?_); refine goesL_ (some 41) rfl rfl Try.func48 (by kernel_rfl) rfl #[.string a0, .int .i64 t156, .string (⟨#[62]⟩ : ByteArray)] rfl ar_ ?_; (with_reducible refine (topiaryref12_begins.calls a0 t156 (⟨#[62]⟩ : ByteArray) false _ A15.out).mono ?_); rintro e w' ⟨rfl, ⟨nd, rfl⟩⟩; refine ⟨_, rfl, ?_⟩; (try (rw [drewN_self wr]; generalize hq_ : World.drewN wr _ = wr; have n0_ : Aside0 (Kd.R k71 71 wr w.heap.size (fun _ => True) (.slice (some ad155) x7_1.length co28) x7_1) := ⟨by rw [← hq_]; exact (rr_ HO_7.out)⟩; have n1_ : Aside0 (Below w.heap.size w wr) := ⟨by rw [← hq_]; exact (bb_ HB.out)⟩; clear HO_7 HB hq_; have HO_7 := n0_; have HB := n1_; clear n0_ n1_))) | ((with_reducible refine gate_callee (f := 48) rfl ?_); refine goesL_ (some 51) rfl rfl Try.func48 (by kernel_rfl) rfl #[.string a0, .int .i64 t156, .string (⟨#[47, 62]⟩ : ByteArray)] rfl ar_ ?_; (with_reducible refine (topiaryref12_begins.calls a0 t156 (⟨#[47, 62]⟩ : ByteArray) false _ A20.out).mono ?_); rintro e w' ⟨rfl, ⟨nd, rfl⟩⟩; refine ⟨_, rfl, ?_⟩; (try (rw [drewN_self wr]; generalize hq_ : World.drewN wr _ = wr; have n0_ : Aside0 (Kd.R k71 71 wr w.heap.size (fun _ => True) (.slice (some ad155) x7_1.length co28) x7_1) := ⟨by rw [← hq_]; exact (rr_ HO_7.out)⟩; have n1_ : Aside0 (Below w.heap.size w wr) := ⟨by rw [← hq_]; exact (bb_ HB.out)⟩; clear HO_7 HB hq_; have HO_7 := n0_; have HB := n1_; clear n0_ n1_))) | ((with_reducible refine gate_callee (f := 55) rfl ?_); refine goesL_ (some 62) rfl rfl Try.func55 (by kernel_rfl) rfl #[.string a0, .int .i64 ((rd_T71 x7_1 (ji11)).f2)] rfl (by (try simp only [List.map_toArray, List.map_cons, List.map_nil]); first | done | (simp only [hji11]; rfl) | rfl | (simp only [List.length_drop, List.length_take]; rfl)) ?_; (with_reducible refine (topiaryref12_attr.calls k1 a0 ((rd_T71 x7_1 (ji11)).f2) t165 t166 t167 t168 t169 true _ A25.out).mono ?_); rintro e w29 ⟨rfl, hb⟩; refine ⟨_, rfl, ?_⟩; have n0_ := Aside0.mk (Kd.R_below (rr_ HO_7.out) hb); have n1_ := Aside0.mk (below_step (bb_ HB.out) hb); clear HO_7; clear HB; have HO_7 := n0_; have HB := n1_; clear n0_ n1_; (try clear hb); (try clear hb2); (try clear hk); (try clear hi)) | ((with_reducible refine gate_dst (N := 10) rfl ?_); refine box_event ?hg (N := 10) ?hd (cs := #[.int .i64 0, .int .i64 0, .int .i64 0, .string (⟨#[]⟩ : ByteArray), .string (⟨#[]⟩ : ByteArray)]) (t := 71) ?hr ?_; (case hd => rfl); (case hg => rfl); (case hr => first | (go_simp; done) | (go_simp; rfl)); intro gb171 hg w30 hbox hb; have n0_ := Aside0.mk (Kd.R_below (Kd.R_elderB (rr_ HO_7.out) gb171 (Nat.le_of_eq hg.symm)) hb); have n1_ := Aside0.mk (below_step (bb_ HB.out) hb); have n2_ := Aside0.mk (hbox); have n3_ := Aside0.mk ((by rw [hg]; exact (below_size (bb_ HB.out)) : w.heap.size ≤ gb171)); have n4_ := Aside0.mk ((by rw [hg]; exact (below_size (bb_ HB.out)) : w.heap.size ≤ gb171)); clear HO_7; clear HB; have HO_7 := n0_; have HB := n1_; have BK171 := n2_; have GW171 := n3_; have GE171 := n4_; clear n0_ n1_ n2_ n3_ n4_; clear hb hbox hg; have hcz31_0 : w30.cell? ⟨gb171, 0, none⟩ = some (.int .i64 0) := (blk_cell BK171.out 0).trans rfl; have hcz31_1 : w30.cell? ⟨gb171, 1, none⟩ = some (.int .i64 0) := (blk_cell BK171.out 1).trans rfl; have hcz31_2 : w30.cell? ⟨gb171, 2, none⟩ = some (.int .i64 0) := (blk_cell BK171.out 2).trans rfl; have hcz31_3 : w30.cell? ⟨gb171, 3, none⟩ = some (.string (⟨#[]⟩ : ByteArray)) := (blk_cell BK171.out 3).trans rfl; have hcz31_4 : w30.cell? ⟨gb171, 4, none⟩ = some (.string (⟨#[]⟩ : ByteArray)) := (blk_cell BK171.out 4).trans rfl; have hfz31_0 := blk_frozen BK171.out 0; have hfz31_1 := blk_frozen BK171.out 1; have hfz31_2 := blk_frozen BK171.out 2; have hfz31_3 := blk_frozen BK171.out 3; have hfz31_4 := blk_frozen BK171.out 4) | ((with_reducible refine gate_builtin (b := .append) (xs := #[.tmp 67, .tmp 69]) rfl ?_); at_builtin; refine Kd.R_append k71 (w0 := w) w.heap.size rfl (.tmp 67) (.tmp 69) 58 71 (.agg #[(.int .i64 0), (.int .i64 0), (.int .i64 0), (.string ⟨#[]⟩), (.string ⟨#[]⟩)]) 56 rfl Try.underlying58 info71 rfl (by decide) (by omega) (.slice (some ad155) x7_1.length co28) x7_1 (⟨t165, t166, t167, t168, t169⟩ : S71) [.int .i64 t165, .int .i64 t166, .int .i64 t167, .string t168, .string t169] (fun k_ => k_ ≠ gb171) (fun _ => False) rfl (by first | (go_simp; done) | (go_simp; rfl)) ?aP (fun _ hk => hk.elim) ?aF ?aO ?aB ?aS ?aL ?_; (case aP => exact k71_mkM _ _ _ (⟨t165, t166, t167, t168, t169⟩ : S71)); (case aB => exact (bs_ HB.out GE171.out)); (case aF => exact (fun k_ hk => Kd.freshB (g := gb171) (o := .cells #[.int .i64 t165, .int .i64 t166, .int .i64 t167, .string t168, .string t169] 71 (0, 0)) (by (with_reducible repeat (first | refine blk_drewN ?_ _ | refine blk_drew ?_ | refine blk_alloc ?_ _)); refine blk_put (cs := #[.int .i64 t165, .int .i64 t166, .int .i64 t167, .string t168, .string (⟨#[]⟩ : ByteArray)]) ?_ 4 _ rfl; (with_reducible repeat (first | refine blk_drewN ?_ _ | refine blk_drew ?_ | refine blk_alloc ?_ _)); refine blk_put (cs := #[.int .i64 t165, .int .i64 t166, .int .i64 t167, .string (⟨#[]⟩ : ByteArray), .string (⟨#[]⟩ : ByteArray)]) ?_ 3 _ rfl; (with_reducible repeat (first | refine blk_drewN ?_ _ | refine blk_drew ?_ | refine blk_alloc ?_ _)); refine blk_put (cs := #[.int .i64 t165, .int .i64 t166, .int .i64 0, .string (⟨#[]⟩ : ByteArray), .string (⟨#[]⟩ : ByteArray)]) ?_ 2 _ rfl; (with_reducible repeat (first | refine blk_drewN ?_ _ | refine blk_drew ?_ | refine blk_alloc ?_ _)); refine blk_put (cs := #[.int .i64 t165, .int .i64 0, .int .i64 0, .string (⟨#[]⟩ : ByteArray), .string (⟨#[]⟩ : ByteArray)]) ?_ 1 _ rfl; (with_reducible repeat (first | refine blk_drewN ?_ _ | refine blk_drew ?_ | refine blk_alloc ?_ _)); refine blk_put (cs := #[.int .i64 0, .int .i64 0, .int .i64 0, .string (⟨#[]⟩ : ByteArray), .string (⟨#[]⟩ : ByteArray)]) ?_ 0 _ rfl; exact bk_ BK171.out) k_ hk)); (case aO => exact (by (with_reducible repeat (first | apply Kd.R_alloc | apply Kd.R_drewN | apply Kd.R_drew)); exact Kd.R_mono (Kd.R_far (p := ⟨gb171, 4, none⟩) (Kd.R_far (p := ⟨gb171, 3, none⟩) (Kd.R_far (p := ⟨gb171, 2, none⟩) (Kd.R_far (p := ⟨gb171, 1, none⟩) (Kd.R_far (p := ⟨gb171, 0, none⟩) (Kd.R_mono HO_7.out (fun k_ hk => (⟨hk, hk.2⟩ : _ ∧ k_ ≠ gb171))) (fun _ hk => hk.2) (.int .i64 t165)) (fun _ hk => hk.2) (.int .i64 t166)) (fun _ hk => hk.2) (.int .i64 t167)) (fun _ hk => hk.2) (.string t168)) (fun _ hk => hk.2) (.string t169)) (fun _ hk => hk.1.2))); (case aS => exact (below_size (bs_ HB.out GE171.out))); (case aL => have := LMc27.out; omega); intro v173 w32 ho hb hg hat; rw [← Ny172.out] at ho; have n0_ := Aside0.mk (blk_grown (g := gb171) (o := .cells #[.int .i64 t165, .int .i64 t166, .int .i64 t167, .string t168, .string t169] 71 (0, 0)) (by (with_reducible repeat (first | refine blk_drewN ?_ _ | refine blk_drew ?_ | refine blk_alloc ?_ _)); refine blk_put (cs := #[.int .i64 t165, .int .i64 t166, .int .i64 t167, .string t168, .string (⟨#[]⟩ : ByteArray)]) ?_ 4 _ rfl; (with_reducible repeat (first | refine blk_drewN ?_ _ | refine blk_drew ?_ | refine blk_alloc ?_ _)); refine blk_put (cs := #[.int .i64 t165, .int .i64 t166, .int .i64 t167, .string (⟨#[]⟩ : ByteArray), .string (⟨#[]⟩ : ByteArray)]) ?_ 3 _ rfl; (with_reducible repeat (first | refine blk_drewN ?_ _ | refine blk_drew ?_ | refine blk_alloc ?_ _)); refine blk_put (cs := #[.int .i64 t165, .int .i64 t166, .int .i64 0, .string (⟨#[]⟩ : ByteArray), .string (⟨#[]⟩ : ByteArray)]) ?_ 2 _ rfl; (with_reducible repeat (first | refine blk_drewN ?_ _ | refine blk_drew ?_ | refine blk_alloc ?_ _)); refine blk_put (cs := #[.int .i64 t165, .int .i64 0, .int .i64 0, .string (⟨#[]⟩ : ByteArray), .string (⟨#[]⟩ : ByteArray)]) ?_ 1 _ rfl; (with_reducible repeat (first | refine blk_drewN ?_ _ | refine blk_drew ?_ | refine blk_alloc ?_ _)); refine blk_put (cs := #[.int .i64 0, .int .i64 0, .int .i64 0, .string (⟨#[]⟩ : ByteArray), .string (⟨#[]⟩ : ByteArray)]) ?_ 0 _ rfl; exact bk_ BK171.out) hg (Kd.R_away HO_7.out (fun _ hk => hk.2))); have n1_ := Aside0.mk (hb); have n2_ := Aside0.mk (ho); clear BK171; clear HB; clear HO_7; have BK171 := n0_; have HB := n1_; have HO174 := n2_; clear n0_ n1_ n2_; clear ho hb hg hat))
             go_roundg k1
             case measure => have := HK1.out; omega
             case rel => exact ⟨(y172), H', ⟨by have := HK1.out; omega⟩, ⟨by (with_reducible repeat (first | apply Kd.R_alloc | apply Kd.R_drewN | apply Kd.R_drew)); exact Kd.R_mono HO174.out (fun _ hk => trivial)⟩, ⟨bs_ HB.out GE171.out⟩⟩
            ·rw [if_neg c27] at H
             exact absurd H (by simp)
           ·replace c26 := Bool.eq_false_iff.mpr c26
            subst c26
            rw [if_neg (show ¬ (false = true) by decide)] at H
            have H1 := H
            clear H
            have H := H1
            clear H1
            simp only [Option.some.injEq, Prod.mk.injEq] at H
            obtain ⟨rfl, rfl⟩ := H
            obtain ⟨Ao33, co33, eo33⟩ := Kd.R_slice HO_7.out
            subst eo33
            have p155 : 0 ≤ ((ji11) : Int) := of_decide_eq_true as_
            have q155 : (ji11) < (x7_1.length : Int) := of_decide_eq_true as_
            obtain ⟨ad155, e155, hx155_0, hx155_1, hx155_2, hx155_3, hx155_4⟩ := at_T71 (Kd.R_reads' HO_7.out).2.2 (ji11) p155 q155
            cases e155
            replace p155 := eq_true p155
            replace q155 := eq_true q155
            go_wp2_with (first | ((with_reducible refine gate_callee (f := 43) rfl ?_); refine goesL_ (some 38) rfl rfl Try.func43 (by kernel_rfl) rfl #[.string a0, .int .i64 ((rd_T71 x7_1 (ji11)).f2)] rfl (by (try simp only [List.map_toArray, List.map_cons, List.map_nil]); first | done | (simp only [hji11]; rfl) | rfl | (simp only [List.length_drop, List.length_take]; rfl)) ?_; (with_reducible refine (topiaryref11_Skip.calls k1 a0 ((rd_T71 x7_1 (ji11)).f2) t156 _ A14.out).mono ?_); rintro e w' ⟨rfl, ⟨nd, rfl⟩⟩; refine ⟨_, rfl, ?_⟩; (try (rw [drewN_self wr]; generalize hq_ : World.drewN wr _ = wr; have n0_ : Aside0 (Kd.R k71 71 wr w.heap.size (fun _ => True) (.slice (some ad155) x7_1.length co33) x7_1) := ⟨by rw [← hq_]; exact (rr_ HO_7.out)⟩; have n1_ : Aside0 (Below w.heap.size w wr) := ⟨by rw [← hq_]; exact (bb_ HB.out)⟩; clear HO_7 HB hq_; have HO_7 := n0_; have HB := n1_; clear n0_ n1_))) | ((with_reducible refine gate_callee (f := 48) rfl ?_); refine goesL_ (some 41) rfl rfl Try.func48 (by kernel_rfl) rfl #[.string a0, .int .i64 t156, .string (⟨#[62]⟩ : ByteArray)] rfl ar_ ?_; (with_reducible refine (topiaryref12_begins.calls a0 t156 (⟨#[62]⟩ : ByteArray) false _ A15.out).mono ?_); rintro e w' ⟨rfl, ⟨nd, rfl⟩⟩; refine ⟨_, rfl, ?_⟩; (try (rw [drewN_self wr]; generalize hq_ : World.drewN wr _ = wr; have n0_ : Aside0 (Kd.R k71 71 wr w.heap.size (fun _ => True) (.slice (some ad155) x7_1.length co33) x7_1) := ⟨by rw [← hq_]; exact (rr_ HO_7.out)⟩; have n1_ : Aside0 (Below w.heap.size w wr) := ⟨by rw [← hq_]; exact (bb_ HB.out)⟩; clear HO_7 HB hq_; have HO_7 := n0_; have HB := n1_; clear n0_ n1_))) | ((with_reducible refine gate_callee (f := 48) rfl ?_); refine goesL_ (some 51) rfl rfl Try.func48 (by kernel_rfl) rfl #[.string a0, .int .i64 t156, .string (⟨#[47, 62]⟩ : ByteArray)] rfl ar_ ?_; (with_reducible refine (topiaryref12_begins.calls a0 t156 (⟨#[47, 62]⟩ : ByteArray) false _ A20.out).mono ?_); rintro e w' ⟨rfl, ⟨nd, rfl⟩⟩; refine ⟨_, rfl, ?_⟩; (try (rw [drewN_self wr]; generalize hq_ : World.drewN wr _ = wr; have n0_ : Aside0 (Kd.R k71 71 wr w.heap.size (fun _ => True) (.slice (some ad155) x7_1.length co33) x7_1) := ⟨by rw [← hq_]; exact (rr_ HO_7.out)⟩; have n1_ : Aside0 (Below w.heap.size w wr) := ⟨by rw [← hq_]; exact (bb_ HB.out)⟩; clear HO_7 HB hq_; have HO_7 := n0_; have HB := n1_; clear n0_ n1_))) | ((with_reducible refine gate_callee (f := 55) rfl ?_); refine goesL_ (some 62) rfl rfl Try.func55 (by kernel_rfl) rfl #[.string a0, .int .i64 ((rd_T71 x7_1 (ji11)).f2)] rfl (by (try simp only [List.map_toArray, List.map_cons, List.map_nil]); first | done | (simp only [hji11]; rfl) | rfl | (simp only [List.length_drop, List.length_take]; rfl)) ?_; (with_reducible refine (topiaryref12_attr.calls k1 a0 ((rd_T71 x7_1 (ji11)).f2) t165 t166 t167 t168 t169 false _ A25.out).mono ?_); rintro e w34 ⟨rfl, hb⟩; refine ⟨_, rfl, ?_⟩; have n0_ := Aside0.mk (Kd.R_below (rr_ HO_7.out) hb); have n1_ := Aside0.mk (below_step (bb_ HB.out) hb); clear HO_7; clear HB; have HO_7 := n0_; have HB := n1_; clear n0_ n1_; (try clear hb); (try clear hb2); (try clear hk); (try clear hi)) | ((with_reducible refine gate_dst (N := 10) rfl ?_); refine box_event ?hg (N := 10) ?hd (cs := #[.int .i64 0, .int .i64 0, .int .i64 0, .string (⟨#[]⟩ : ByteArray), .string (⟨#[]⟩ : ByteArray)]) (t := 71) ?hr ?_; (case hd => rfl); (case hg => rfl); (case hr => first | (go_simp; done) | (go_simp; rfl)); intro gb171 hg w35 hbox hb; have n0_ := Aside0.mk (Kd.R_below (Kd.R_elderB (rr_ HO_7.out) gb171 (Nat.le_of_eq hg.symm)) hb); have n1_ := Aside0.mk (below_step (bb_ HB.out) hb); have n2_ := Aside0.mk (hbox); have n3_ := Aside0.mk ((by rw [hg]; exact (below_size (bb_ HB.out)) : w.heap.size ≤ gb171)); have n4_ := Aside0.mk ((by rw [hg]; exact (below_size (bb_ HB.out)) : w.heap.size ≤ gb171)); clear HO_7; clear HB; have HO_7 := n0_; have HB := n1_; have BK171 := n2_; have GW171 := n3_; have GE171 := n4_; clear n0_ n1_ n2_ n3_ n4_; clear hb hbox hg; have hcz36_0 : w35.cell? ⟨gb171, 0, none⟩ = some (.int .i64 0) := (blk_cell BK171.out 0).trans rfl; have hcz36_1 : w35.cell? ⟨gb171, 1, none⟩ = some (.int .i64 0) := (blk_cell BK171.out 1).trans rfl; have hcz36_2 : w35.cell? ⟨gb171, 2, none⟩ = some (.int .i64 0) := (blk_cell BK171.out 2).trans rfl; have hcz36_3 : w35.cell? ⟨gb171, 3, none⟩ = some (.string (⟨#[]⟩ : ByteArray)) := (blk_cell BK171.out 3).trans rfl; have hcz36_4 : w35.cell? ⟨gb171, 4, none⟩ = some (.string (⟨#[]⟩ : ByteArray)) := (blk_cell BK171.out 4).trans rfl; have hfz36_0 := blk_frozen BK171.out 0; have hfz36_1 := blk_frozen BK171.out 1; have hfz36_2 := blk_frozen BK171.out 2; have hfz36_3 := blk_frozen BK171.out 3; have hfz36_4 := blk_frozen BK171.out 4))
            go_ret2
            exact ⟨_, by first | rfl | (simp [errW_none, errW_some] <;> rfl) | (simp only [← hji5, ← hji11]; first | rfl | (simp [errW_none, errW_some] <;> rfl)) | (simp [*, errW_none, errW_some] <;> rfl), by first | exact Kd.R_nil _ _ _ _ _ | exact Kd.N_nil _ _ _ _ _ | exact Kd.V_nil _ _ _ _ _ | exact Kd.Q_nil _ _ _ _ _ | exact Kd.S_nil _ _ _ _ _, bs_ HB.out GE171.out⟩
        ·rw [if_neg c13] at H
         exact absurd H (by simp)
       ·rw [if_neg c12] at H
        exact absurd H (by simp)
    ·rw [if_neg c8] at H
     exact absurd H (by simp)
   ·rw [if_neg c7] at H
    exact absurd H (by simp)
  ·rw [if_neg c6] at H
   exact absurd H (by simp)
def topiaryref12_piece.f (k : Nat) (a0 : ByteArray) (a1 : Int) : Option ((List (S71)) × Bool) := (topiaryref12_begins.f a0 a1 (⟨#[60, 33, 45, 45]⟩ : ByteArray)).bind fun t175 => (if t175 = true then ((topiaryref12_find.f k a0 (wrap64 (a1 + 4)) (⟨#[45, 45]⟩ : ByteArray)).bind fun t176 => (if t176 < 0 then (some (([] : List (S71)), false)) else ((topiaryref12_begins.f a0 t176 (⟨#[45, 45, 62]⟩ : ByteArray)).bind fun t177 => (if t177 = true then (if 0 ≤ (wrap64 (a1 + 4)) then (if (wrap64 (a1 + 4)) ≤ t176 then (if t176 ≤ (a0.size : Int) then (some ((([(⟨7, a1, wrap64 (t176 + 3), (⟨#[]⟩ : ByteArray), a0.extract ((wrap64 (a1 + 4)) : Int).toNat (t176 : Int).toNat⟩ : S71)] : List (S71))), true)) else (none)) else (none)) else (none)) else (some (([] : List (S71)), false)))))) else ((topiaryref12_begins.f a0 a1 (⟨#[60, 33, 91, 67, 68, 65, 84, 65, 91]⟩ : ByteArray)).bind fun t181 => (if t181 = true then ((topiaryref12_find.f k a0 (wrap64 (a1 + 9)) (⟨#[93, 93, 62]⟩ : ByteArray)).bind fun t182 => (if t182 < 0 then (some (([] : List (S71)), false)) else (if 0 ≤ (wrap64 (a1 + 9)) then (if (wrap64 (a1 + 9)) ≤ t182 then (if t182 ≤ (a0.size : Int) then (some ((([(⟨6, a1, wrap64 (t182 + 3), (⟨#[]⟩ : ByteArray), a0.extract ((wrap64 (a1 + 9)) : Int).toNat (t182 : Int).toNat⟩ : S71)] : List (S71))), true)) else (none)) else (none)) else (none)))) else ((topiaryref12_begins.f a0 a1 (⟨#[60, 47]⟩ : ByteArray)).bind fun t186 => (if t186 = true then ((topiaryref11_NameEnd.f k a0 (wrap64 (a1 + 2))).bind fun t187 => ((topiaryref11_Skip.f k a0 t187).bind fun t188 => (if t187 = (wrap64 (a1 + 2)) then (some (([] : List (S71)), false)) else ((topiaryref12_begins.f a0 t188 (⟨#[62]⟩ : ByteArray)).bind fun t189 => (if t189 = true then (if 0 ≤ (wrap64 (a1 + 2)) then (if (wrap64 (a1 + 2)) ≤ t187 then (if t187 ≤ (a0.size : Int) then (some ((([(⟨5, a1, wrap64 (t188 + 1), a0.extract ((wrap64 (a1 + 2)) : Int).toNat (t187 : Int).toNat, (⟨#[]⟩ : ByteArray)⟩ : S71)] : List (S71))), true)) else (none)) else (none)) else (none)) else (some (([] : List (S71)), false))))))) else ((topiaryref12_begins.f a0 a1 (⟨#[60]⟩ : ByteArray)).bind fun t193 => (if t193 = true then ((topiaryref12_tag.f k a0 a1).bind fun bt194 => (some (bt194.1, bt194.2))) else ((topiaryref12_find.f k a0 a1 (⟨#[60]⟩ : ByteArray)).bind fun t198 => (if t198 < 0 then (if 0 ≤ a1 then (if a1 ≤ (a0.size : Int) then (if (a0.size : Int) ≤ (a0.size : Int) then ((topiaryref12_decoded.f k (a0.extract (a1 : Int).toNat ((a0.size : Int) : Int).toNat)).bind fun bt199 => (some ((([(⟨6, a1, (a0.size : Int), (⟨#[]⟩ : ByteArray), bt199.1⟩ : S71)] : List (S71))), bt199.2))) else (none)) else (none)) else (none)) else (if 0 ≤ a1 then (if a1 ≤ t198 then (if t198 ≤ (a0.size : Int) then ((topiaryref12_decoded.f k (a0.extract (a1 : Int).toNat (t198 : Int).toNat)).bind fun bt204 => (some ((([(⟨6, a1, t198, (⟨#[]⟩ : ByteArray), bt204.1⟩ : S71)] : List (S71))), bt204.2))) else (none)) else (none)) else (none)))))))))))
set_option maxHeartbeats 8000000 in
set_option maxRecDepth 100000 in
theorem topiaryref12_piece.calls (k : Nat) (a0 : ByteArray) (a1 : Int) (r1 : List (S71)) (r2 : Bool) (w : World) (h : topiaryref12_piece.f k a0 a1 = some (r1, r2)) :
  Calls Try.prog 42 #[.string a0, .int .i64 a1] w fun e w' => ∃ v0_ : Value, e = .returned (.tuple #[v0_, .bool r2]) ∧ Kd.R k71 71 w' w.heap.size (fun _ => True) v0_ r1 ∧ Below w.heap.size w w' := by
 have hu71 := Try.underlying71
 have HB := Aside0.mk (Below.refl w.heap.size w)
 have H : ((topiaryref12_begins.f a0 a1 (⟨#[60, 33, 45, 45]⟩ : ByteArray)).bind fun t175 => (if t175 = true then ((topiaryref12_find.f k a0 (wrap64 (a1 + 4)) (⟨#[45, 45]⟩ : ByteArray)).bind fun t176 => (if t176 < 0 then (some (([] : List (S71)), false)) else ((topiaryref12_begins.f a0 t176 (⟨#[45, 45, 62]⟩ : ByteArray)).bind fun t177 => (if t177 = true then (if 0 ≤ (wrap64 (a1 + 4)) then (if (wrap64 (a1 + 4)) ≤ t176 then (if t176 ≤ (a0.size : Int) then (some ((([(⟨7, a1, wrap64 (t176 + 3), (⟨#[]⟩ : ByteArray), a0.extract ((wrap64 (a1 + 4)) : Int).toNat (t176 : Int).toNat⟩ : S71)] : List (S71))), true)) else (none)) else (none)) else (none)) else (some (([] : List (S71)), false)))))) else ((topiaryref12_begins.f a0 a1 (⟨#[60, 33, 91, 67, 68, 65, 84, 65, 91]⟩ : ByteArray)).bind fun t181 => (if t181 = true then ((topiaryref12_find.f k a0 (wrap64 (a1 + 9)) (⟨#[93, 93, 62]⟩ : ByteArray)).bind fun t182 => (if t182 < 0 then (some (([] : List (S71)), false)) else (if 0 ≤ (wrap64 (a1 + 9)) then (if (wrap64 (a1 + 9)) ≤ t182 then (if t182 ≤ (a0.size : Int) then (some ((([(⟨6, a1, wrap64 (t182 + 3), (⟨#[]⟩ : ByteArray), a0.extract ((wrap64 (a1 + 9)) : Int).toNat (t182 : Int).toNat⟩ : S71)] : List (S71))), true)) else (none)) else (none)) else (none)))) else ((topiaryref12_begins.f a0 a1 (⟨#[60, 47]⟩ : ByteArray)).bind fun t186 => (if t186 = true then ((topiaryref11_NameEnd.f k a0 (wrap64 (a1 + 2))).bind fun t187 => ((topiaryref11_Skip.f k a0 t187).bind fun t188 => (if t187 = (wrap64 (a1 + 2)) then (some (([] : List (S71)), false)) else ((topiaryref12_begins.f a0 t188 (⟨#[62]⟩ : ByteArray)).bind fun t189 => (if t189 = true then (if 0 ≤ (wrap64 (a1 + 2)) then (if (wrap64 (a1 + 2)) ≤ t187 then (if t187 ≤ (a0.size : Int) then (some ((([(⟨5, a1, wrap64 (t188 + 1), a0.extract ((wrap64 (a1 + 2)) : Int).toNat (t187 : Int).toNat, (⟨#[]⟩ : ByteArray)⟩ : S71)] : List (S71))), true)) else (none)) else (none)) else (none)) else (some (([] : List (S71)), false))))))) else ((topiaryref12_begins.f a0 a1 (⟨#[60]⟩ : ByteArray)).bind fun t193 => (if t193 = true then ((topiaryref12_tag.f k a0 a1).bind fun bt194 => (some (bt194.1, bt194.2))) else ((topiaryref12_find.f k a0 a1 (⟨#[60]⟩ : ByteArray)).bind fun t198 => (if t198 < 0 then (if 0 ≤ a1 then (if a1 ≤ (a0.size : Int) then (if (a0.size : Int) ≤ (a0.size : Int) then ((topiaryref12_decoded.f k (a0.extract (a1 : Int).toNat ((a0.size : Int) : Int).toNat)).bind fun bt199 => (some ((([(⟨6, a1, (a0.size : Int), (⟨#[]⟩ : ByteArray), bt199.1⟩ : S71)] : List (S71))), bt199.2))) else (none)) else (none)) else (none)) else (if 0 ≤ a1 then (if a1 ≤ t198 then (if t198 ≤ (a0.size : Int) then ((topiaryref12_decoded.f k (a0.extract (a1 : Int).toNat (t198 : Int).toNat)).bind fun bt204 => (some ((([(⟨6, a1, t198, (⟨#[]⟩ : ByteArray), bt204.1⟩ : S71)] : List (S71))), bt204.2))) else (none)) else (none)) else (none)))))))))))) = some (r1, r2) := h
 clear h
 replace H := Option.bind_eq_some_iff.mp H
 obtain ⟨t175, A30, H⟩ := H
 try dsimp only at H
 have A3 := Aside0.mk A30
 clear A30
 by_cases c4 : t175 = true
 ·subst c4
  rw [if_pos rfl] at H
  have H1 := H
  clear H
  have H := H1
  clear H1
  replace H := Option.bind_eq_some_iff.mp H
  obtain ⟨t176, A50, H⟩ := H
  try dsimp only at H
  have A5 := Aside0.mk A50
  clear A50
  by_cases c6 : t176 < 0
  ·rw [if_pos c6] at H
   have c6b0 : decide (t176 < 0) = true := decide_eq_true c6
   clear c6
   simp only [Option.some.injEq, Prod.mk.injEq] at H
   obtain ⟨rfl, rfl⟩ := H
   go_enter Try.func42, Try.ntmps42
   go_wp2_with (first | ((with_reducible refine gate_callee (f := 48) rfl ?_); refine goesL_ (some 15) rfl rfl Try.func48 (by kernel_rfl) rfl #[.string a0, .int .i64 a1, .string (⟨#[60, 33, 45, 45]⟩ : ByteArray)] rfl ar_ ?_; (with_reducible refine (topiaryref12_begins.calls a0 a1 (⟨#[60, 33, 45, 45]⟩ : ByteArray) true _ A3.out).mono ?_); rintro e w' ⟨rfl, ⟨nd, rfl⟩⟩; refine ⟨_, rfl, ?_⟩) | ((with_reducible refine gate_callee (f := 49) rfl ?_); refine goesL_ (some 19) rfl rfl Try.func49 (by kernel_rfl) rfl #[.string a0, .int .i64 (wrap64 (a1 + 4)), .string (⟨#[45, 45]⟩ : ByteArray)] rfl ar_ ?_; (with_reducible refine (topiaryref12_find.calls k a0 (wrap64 (a1 + 4)) (⟨#[45, 45]⟩ : ByteArray) t176 _ A5.out).mono ?_); rintro e w' ⟨rfl, ⟨nd, rfl⟩⟩; refine ⟨_, rfl, ?_⟩))
   go_ret2
   exact ⟨_, by first | rfl | (simp [errW_none, errW_some] <;> rfl) | (simp [*, errW_none, errW_some] <;> rfl), by first | exact Kd.R_nil _ _ _ _ _ | exact Kd.N_nil _ _ _ _ _ | exact Kd.V_nil _ _ _ _ _ | exact Kd.Q_nil _ _ _ _ _ | exact Kd.S_nil _ _ _ _ _, bb_ HB.out⟩
  ·rw [if_neg c6] at H
   have c6b0 : decide (t176 < 0) = false := decide_eq_false c6
   clear c6
   replace H := Option.bind_eq_some_iff.mp H
   obtain ⟨t177, A70, H⟩ := H
   try dsimp only at H
   have A7 := Aside0.mk A70
   clear A70
   by_cases c8 : t177 = true
   ·subst c8
    rw [if_pos rfl] at H
    have H1 := H
    clear H
    have H := H1
    clear H1
    obtain ⟨ji9, hji9⟩ : ∃ j_ : Int, (wrap64 (a1 + 4)) = j_ := ⟨_, rfl⟩
    replace H : (if 0 ≤ (ji9) then (if (ji9) ≤ t176 then (if t176 ≤ (a0.size : Int) then (some ((([(⟨7, a1, wrap64 (t176 + 3), (⟨#[]⟩ : ByteArray), a0.extract ((ji9) : Int).toNat (t176 : Int).toNat⟩ : S71)] : List (S71))), true)) else (none)) else (none)) else (none)) = some (r1, r2) := by first | (rw [hji9] at H; exact H) | (simp only [hji9] at H ⊢; exact H)
    (try rw [hji9] at A3)
    (try rw [hji9] at A5)
    (try rw [hji9] at A7)
    have hji9w : (IntKind.i64.wrap (a1 + 4)) = ji9 := (i64_w _).trans hji9
    by_cases c10 : 0 ≤ (ji9)
    ·rw [if_pos c10] at H
     have c10b0 := eq_true c10
     have c10b1 : decide (0 ≤ (ji9)) = true := decide_eq_true c10
     clear c10
     by_cases c11 : (ji9) ≤ t176
     ·rw [if_pos c11] at H
      have c11b0 := eq_true c11
      have c11b1 : decide ((ji9) ≤ t176) = true := decide_eq_true c11
      clear c11
      by_cases c12 : t176 ≤ (a0.size : Int)
      ·rw [if_pos c12] at H
       have c12b0 := eq_true c12
       have c12b1 : decide (t176 ≤ (a0.size : Int)) = true := decide_eq_true c12
       clear c12
       obtain ⟨y178, hy178⟩ : ∃ y_ : List (S71), y_ = (([(⟨7, a1, wrap64 (t176 + 3), (⟨#[]⟩ : ByteArray), a0.extract ((ji9) : Int).toNat (t176 : Int).toNat⟩ : S71)] : List (S71))) := ⟨_, rfl⟩
       replace H : (some (y178, true)) = some (r1, r2) := by first | (rw [hy178]; with_reducible exact H) | (have H2_ := (Option.bind_some _ _).symm.trans H; rw [hy178]; with_reducible exact H2_) | (have H2_ := (Option.bind_some _ _).symm.trans H; with_reducible exact H2_) | with_reducible exact H | (rw [hy178]; exact H) | exact H
       have Ny178 := Aside0.mk hy178
       clear hy178
       simp only [Option.some.injEq, Prod.mk.injEq] at H
       obtain ⟨rfl, rfl⟩ := H
       go_enter Try.func42, Try.ntmps42
       go_wp2_with (first | ((with_reducible refine gate_callee (f := 48) rfl ?_); refine goesL_ (some 15) rfl rfl Try.func48 (by kernel_rfl) rfl #[.string a0, .int .i64 a1, .string (⟨#[60, 33, 45, 45]⟩ : ByteArray)] rfl ar_ ?_; (with_reducible refine (topiaryref12_begins.calls a0 a1 (⟨#[60, 33, 45, 45]⟩ : ByteArray) true _ A3.out).mono ?_); rintro e w' ⟨rfl, ⟨nd, rfl⟩⟩; refine ⟨_, rfl, ?_⟩) | ((with_reducible refine gate_callee (f := 49) rfl ?_); refine goesL_ (some 19) rfl rfl Try.func49 (by kernel_rfl) rfl #[.string a0, .int .i64 ji9, .string (⟨#[45, 45]⟩ : ByteArray)] rfl (by (try simp only [List.map_toArray, List.map_cons, List.map_nil]); first | done | (simp only [hji9]; rfl) | rfl | (simp only [List.length_drop, List.length_take]; rfl)) ?_; (with_reducible refine (topiaryref12_find.calls k a0 ji9 (⟨#[45, 45]⟩ : ByteArray) t176 _ A5.out).mono ?_); rintro e w' ⟨rfl, ⟨nd, rfl⟩⟩; refine ⟨_, rfl, ?_⟩) | (go_at_call 48; (with_reducible refine (topiaryref12_begins.calls a0 t176 (⟨#[45, 45, 62]⟩ : ByteArray) true _ A7.out).mono ?_); rintro e w' ⟨rfl, ⟨nd, rfl⟩⟩) | ((with_reducible refine gate_dst (N := 37) rfl ?_); refine Kd.R_lit k71 _ 71 ?hg (N := 37) ?hd (xs := ([(⟨7, a1, wrap64 (t176 + 3), (⟨#[]⟩ : ByteArray), a0.extract ((ji9) : Int).toNat (t176 : Int).toNat⟩ : S71)] : List (S71))) (inner := [.int .i64 7, .int .i64 a1, .int .i64 (wrap64 (t176 + 3)), .string (⟨#[]⟩ : ByteArray), .string (a0.extract ((ji9) : Int).toNat (t176 : Int).toNat)]) (ok := fun _ => True) (okp := fun _ => True) ?hr ?hp (fun _ hk => hk) trivial (Below.refl _ _) (Nat.le_refl _) (by simp) ?_; (case hd => rfl); (case hg => rfl); (case hr => first | (go_simp; done) | (go_simp; rfl)); (case hp => exact (Reps.c5 (show Kd.M k71 _ _ _ (⟨7, a1, wrap64 (t176 + 3), (⟨#[]⟩ : ByteArray), a0.extract ((ji9) : Int).toNat (t176 : Int).toNat⟩ : S71) [.int .i64 7, .int .i64 a1, .int .i64 (wrap64 (t176 + 3)), .string (⟨#[]⟩ : ByteArray), .string (a0.extract ((ji9) : Int).toNat (t176 : Int).toNat)] from (k71_mkM _ _ _ (⟨7, a1, wrap64 (t176 + 3), (⟨#[]⟩ : ByteArray), a0.extract ((ji9) : Int).toNat (t176 : Int).toNat⟩ : S71) )) (Reps.none _ _))); intro v179 w13 ho14 hb hg_ hnew_; clear hg_ hnew_; (first | rw [← Ny178.out] at ho14 | (simp only [Int.reduceToNat] at ho14; rw [← Ny178.out] at ho14)); have n0_ := Aside0.mk (Kd.R_lower ho14 (below_size (bb_ HB.out))); have n1_ := Aside0.mk (below_step (bb_ HB.out) hb); clear HB; have HO180 := n0_; have HB := n1_; clear n0_ n1_; clear hb ho14))
       go_ret2
       exact ⟨_, by first | rfl | (simp [errW_none, errW_some] <;> rfl) | (simp only [← hji9]; first | rfl | (simp [errW_none, errW_some] <;> rfl)) | (simp [*, errW_none, errW_some] <;> rfl), rr_ HO180.out, bb_ HB.out⟩
      ·rw [if_neg c12] at H
       exact absurd H (by simp)
     ·rw [if_neg c11] at H
      exact absurd H (by simp)
    ·rw [if_neg c10] at H
     exact absurd H (by simp)
   ·replace c8 := Bool.eq_false_iff.mpr c8
    subst c8
    rw [if_neg (show ¬ (false = true) by decide)] at H
    have H1 := H
    clear H
    have H := H1
    clear H1
    simp only [Option.some.injEq, Prod.mk.injEq] at H
    obtain ⟨rfl, rfl⟩ := H
    go_enter Try.func42, Try.ntmps42
    go_wp2_with (first | ((with_reducible refine gate_callee (f := 48) rfl ?_); refine goesL_ (some 15) rfl rfl Try.func48 (by kernel_rfl) rfl #[.string a0, .int .i64 a1, .string (⟨#[60, 33, 45, 45]⟩ : ByteArray)] rfl ar_ ?_; (with_reducible refine (topiaryref12_begins.calls a0 a1 (⟨#[60, 33, 45, 45]⟩ : ByteArray) true _ A3.out).mono ?_); rintro e w' ⟨rfl, ⟨nd, rfl⟩⟩; refine ⟨_, rfl, ?_⟩) | ((with_reducible refine gate_callee (f := 49) rfl ?_); refine goesL_ (some 19) rfl rfl Try.func49 (by kernel_rfl) rfl #[.string a0, .int .i64 (wrap64 (a1 + 4)), .string (⟨#[45, 45]⟩ : ByteArray)] rfl ar_ ?_; (with_reducible refine (topiaryref12_find.calls k a0 (wrap64 (a1 + 4)) (⟨#[45, 45]⟩ : ByteArray) t176 _ A5.out).mono ?_); rintro e w' ⟨rfl, ⟨nd, rfl⟩⟩; refine ⟨_, rfl, ?_⟩) | (go_at_call 48; (with_reducible refine (topiaryref12_begins.calls a0 t176 (⟨#[45, 45, 62]⟩ : ByteArray) false _ A7.out).mono ?_); rintro e w' ⟨rfl, ⟨nd, rfl⟩⟩))
    go_ret2
    exact ⟨_, by first | rfl | (simp [errW_none, errW_some] <;> rfl) | (simp [*, errW_none, errW_some] <;> rfl), by first | exact Kd.R_nil _ _ _ _ _ | exact Kd.N_nil _ _ _ _ _ | exact Kd.V_nil _ _ _ _ _ | exact Kd.Q_nil _ _ _ _ _ | exact Kd.S_nil _ _ _ _ _, bb_ HB.out⟩
 ·replace c4 := Bool.eq_false_iff.mpr c4
  subst c4
  rw [if_neg (show ¬ (false = true) by decide)] at H
  have H1 := H
  clear H
  have H := H1
  clear H1
  replace H := Option.bind_eq_some_iff.mp H
  obtain ⟨t181, A150, H⟩ := H
  try dsimp only at H
  have A15 := Aside0.mk A150
  clear A150
  by_cases c16 : t181 = true
  ·subst c16
   rw [if_pos rfl] at H
   have H1 := H
   clear H
   have H := H1
   clear H1
   replace H := Option.bind_eq_some_iff.mp H
   obtain ⟨t182, A170, H⟩ := H
   try dsimp only at H
   have A17 := Aside0.mk A170
   clear A170
   by_cases c18 : t182 < 0
   ·rw [if_pos c18] at H
    have c18b0 : decide (t182 < 0) = true := decide_eq_true c18
    clear c18
    simp only [Option.some.injEq, Prod.mk.injEq] at H
    obtain ⟨rfl, rfl⟩ := H
    go_enter Try.func42, Try.ntmps42
    go_wp2_with (first | ((with_reducible refine gate_callee (f := 48) rfl ?_); refine goesL_ (some 15) rfl rfl Try.func48 (by kernel_rfl) rfl #[.string a0, .int .i64 a1, .string (⟨#[60, 33, 45, 45]⟩ : ByteArray)] rfl ar_ ?_; (with_reducible refine (topiaryref12_begins.calls a0 a1 (⟨#[60, 33, 45, 45]⟩ : ByteArray) false _ A3.out).mono ?_); rintro e w' ⟨rfl, ⟨nd, rfl⟩⟩; refine ⟨_, rfl, ?_⟩) | ((with_reducible refine gate_callee (f := 48) rfl ?_); refine goesL_ (some 40) rfl rfl Try.func48 (by kernel_rfl) rfl #[.string a0, .int .i64 a1, .string (⟨#[60, 33, 91, 67, 68, 65, 84, 65, 91]⟩ : ByteArray)] rfl ar_ ?_; (with_reducible refine (topiaryref12_begins.calls a0 a1 (⟨#[60, 33, 91, 67, 68, 65, 84, 65, 91]⟩ : ByteArray) true _ A15.out).mono ?_); rintro e w' ⟨rfl, ⟨nd, rfl⟩⟩; refine ⟨_, rfl, ?_⟩) | ((with_reducible refine gate_callee (f := 49) rfl ?_); refine goesL_ (some 44) rfl rfl Try.func49 (by kernel_rfl) rfl #[.string a0, .int .i64 (wrap64 (a1 + 9)), .string (⟨#[93, 93, 62]⟩ : ByteArray)] rfl ar_ ?_; (with_reducible refine (topiaryref12_find.calls k a0 (wrap64 (a1 + 9)) (⟨#[93, 93, 62]⟩ : ByteArray) t182 _ A17.out).mono ?_); rintro e w' ⟨rfl, ⟨nd, rfl⟩⟩; refine ⟨_, rfl, ?_⟩))
    go_ret2
    exact ⟨_, by first | rfl | (simp [errW_none, errW_some] <;> rfl) | (simp [*, errW_none, errW_some] <;> rfl), by first | exact Kd.R_nil _ _ _ _ _ | exact Kd.N_nil _ _ _ _ _ | exact Kd.V_nil _ _ _ _ _ | exact Kd.Q_nil _ _ _ _ _ | exact Kd.S_nil _ _ _ _ _, bb_ HB.out⟩
   ·rw [if_neg c18] at H
    have c18b0 : decide (t182 < 0) = false := decide_eq_false c18
    clear c18
    obtain ⟨ji19, hji19⟩ : ∃ j_ : Int, (wrap64 (a1 + 9)) = j_ := ⟨_, rfl⟩
    replace H : (if 0 ≤ (ji19) then (if (ji19) ≤ t182 then (if t182 ≤ (a0.size : Int) then (some ((([(⟨6, a1, wrap64 (t182 + 3), (⟨#[]⟩ : ByteArray), a0.extract ((ji19) : Int).toNat (t182 : Int).toNat⟩ : S71)] : List (S71))), true)) else (none)) else (none)) else (none)) = some (r1, r2) := by first | (rw [hji19] at H; exact H) | (simp only [hji19] at H ⊢; exact H)
    (try rw [hji19] at A3)
    (try rw [hji19] at A15)
    (try rw [hji19] at A17)
    have hji19w : (IntKind.i64.wrap (a1 + 9)) = ji19 := (i64_w _).trans hji19
    by_cases c20 : 0 ≤ (ji19)
    ·rw [if_pos c20] at H
     have c20b0 := eq_true c20
     have c20b1 : decide (0 ≤ (ji19)) = true := decide_eq_true c20
     clear c20
     by_cases c21 : (ji19) ≤ t182
     ·rw [if_pos c21] at H
      have c21b0 := eq_true c21
      have c21b1 : decide ((ji19) ≤ t182) = true := decide_eq_true c21
      clear c21
      by_cases c22 : t182 ≤ (a0.size : Int)
      ·rw [if_pos c22] at H
       have c22b0 := eq_true c22
       have c22b1 : decide (t182 ≤ (a0.size : Int)) = true := decide_eq_true c22
       clear c22
       obtain ⟨y183, hy183⟩ : ∃ y_ : List (S71), y_ = (([(⟨6, a1, wrap64 (t182 + 3), (⟨#[]⟩ : ByteArray), a0.extract ((ji19) : Int).toNat (t182 : Int).toNat⟩ : S71)] : List (S71))) := ⟨_, rfl⟩
       replace H : (some (y183, true)) = some (r1, r2) := by first | (rw [hy183]; with_reducible exact H) | (have H2_ := (Option.bind_some _ _).symm.trans H; rw [hy183]; with_reducible exact H2_) | (have H2_ := (Option.bind_some _ _).symm.trans H; with_reducible exact H2_) | with_reducible exact H | (rw [hy183]; exact H) | exact H
       have Ny183 := Aside0.mk hy183
       clear hy183
       simp only [Option.some.injEq, Prod.mk.injEq] at H
       obtain ⟨rfl, rfl⟩ := H
       go_enter Try.func42, Try.ntmps42
       go_wp2_with (first | ((with_reducible refine gate_callee (f := 48) rfl ?_); refine goesL_ (some 15) rfl rfl Try.func48 (by kernel_rfl) rfl #[.string a0, .int .i64 a1, .string (⟨#[60, 33, 45, 45]⟩ : ByteArray)] rfl ar_ ?_; (with_reducible refine (topiaryref12_begins.calls a0 a1 (⟨#[60, 33, 45, 45]⟩ : ByteArray) false _ A3.out).mono ?_); rintro e w' ⟨rfl, ⟨nd, rfl⟩⟩; refine ⟨_, rfl, ?_⟩) | ((with_reducible refine gate_callee (f := 48) rfl ?_); refine goesL_ (some 40) rfl rfl Try.func48 (by kernel_rfl) rfl #[.string a0, .int .i64 a1, .string (⟨#[60, 33, 91, 67, 68, 65, 84, 65, 91]⟩ : ByteArray)] rfl ar_ ?_; (with_reducible refine (topiaryref12_begins.calls a0 a1 (⟨#[60, 33, 91, 67, 68, 65, 84, 65, 91]⟩ : ByteArray) true _ A15.out).mono ?_); rintro e w' ⟨rfl, ⟨nd, rfl⟩⟩; refine ⟨_, rfl, ?_⟩) | ((with_reducible refine gate_callee (f := 49) rfl ?_); refine goesL_ (some 44) rfl rfl Try.func49 (by kernel_rfl) rfl #[.string a0, .int .i64 ji19, .string (⟨#[93, 93, 62]⟩ : ByteArray)] rfl (by (try simp only [List.map_toArray, List.map_cons, List.map_nil]); first | done | (simp only [hji19]; rfl) | rfl | (simp only [List.length_drop, List.length_take]; rfl)) ?_; (with_reducible refine (topiaryref12_find.calls k a0 ji19 (⟨#[93, 93, 62]⟩ : ByteArray) t182 _ A17.out).mono ?_); rintro e w' ⟨rfl, ⟨nd, rfl⟩⟩; refine ⟨_, rfl, ?_⟩) | ((with_reducible refine gate_dst (N := 56) rfl ?_); refine Kd.R_lit k71 _ 71 ?hg (N := 56) ?hd (xs := ([(⟨6, a1, wrap64 (t182 + 3), (⟨#[]⟩ : ByteArray), a0.extract ((ji19) : Int).toNat (t182 : Int).toNat⟩ : S71)] : List (S71))) (inner := [.int .i64 6, .int .i64 a1, .int .i64 (wrap64 (t182 + 3)), .string (⟨#[]⟩ : ByteArray), .string (a0.extract ((ji19) : Int).toNat (t182 : Int).toNat)]) (ok := fun _ => True) (okp := fun _ => True) ?hr ?hp (fun _ hk => hk) trivial (Below.refl _ _) (Nat.le_refl _) (by simp) ?_; (case hd => rfl); (case hg => rfl); (case hr => first | (go_simp; done) | (go_simp; rfl)); (case hp => exact (Reps.c5 (show Kd.M k71 _ _ _ (⟨6, a1, wrap64 (t182 + 3), (⟨#[]⟩ : ByteArray), a0.extract ((ji19) : Int).toNat (t182 : Int).toNat⟩ : S71) [.int .i64 6, .int .i64 a1, .int .i64 (wrap64 (t182 + 3)), .string (⟨#[]⟩ : ByteArray), .string (a0.extract ((ji19) : Int).toNat (t182 : Int).toNat)] from (k71_mkM _ _ _ (⟨6, a1, wrap64 (t182 + 3), (⟨#[]⟩ : ByteArray), a0.extract ((ji19) : Int).toNat (t182 : Int).toNat⟩ : S71) )) (Reps.none _ _))); intro v184 w23 ho24 hb hg_ hnew_; clear hg_ hnew_; (first | rw [← Ny183.out] at ho24 | (simp only [Int.reduceToNat] at ho24; rw [← Ny183.out] at ho24)); have n0_ := Aside0.mk (Kd.R_lower ho24 (below_size (bb_ HB.out))); have n1_ := Aside0.mk (below_step (bb_ HB.out) hb); clear HB; have HO185 := n0_; have HB := n1_; clear n0_ n1_; clear hb ho24))
       go_ret2
       exact ⟨_, by first | rfl | (simp [errW_none, errW_some] <;> rfl) | (simp only [← hji19]; first | rfl | (simp [errW_none, errW_some] <;> rfl)) | (simp [*, errW_none, errW_some] <;> rfl), rr_ HO185.out, bb_ HB.out⟩
      ·rw [if_neg c22] at H
       exact absurd H (by simp)
     ·rw [if_neg c21] at H
      exact absurd H (by simp)
    ·rw [if_neg c20] at H
     exact absurd H (by simp)
  ·replace c16 := Bool.eq_false_iff.mpr c16
   subst c16
   rw [if_neg (show ¬ (false = true) by decide)] at H
   have H1 := H
   clear H
   have H := H1
   clear H1
   replace H := Option.bind_eq_some_iff.mp H
   obtain ⟨t186, A250, H⟩ := H
   try dsimp only at H
   have A25 := Aside0.mk A250
   clear A250
   by_cases c26 : t186 = true
   ·subst c26
    rw [if_pos rfl] at H
    have H1 := H
    clear H
    have H := H1
    clear H1
    replace H := Option.bind_eq_some_iff.mp H
    obtain ⟨t187, A270, H⟩ := H
    try dsimp only at H
    have A27 := Aside0.mk A270
    clear A270
    replace H := Option.bind_eq_some_iff.mp H
    obtain ⟨t188, A280, H⟩ := H
    try dsimp only at H
    have A28 := Aside0.mk A280
    clear A280
    by_cases c29 : t187 = (wrap64 (a1 + 2))
    ·rw [if_pos c29] at H
     have c29b0 : (t187 == (wrap64 (a1 + 2))) = true := beq_iff_eq.mpr c29
     have c29b1 : (t187 != (wrap64 (a1 + 2))) = false := bne_eq_false_iff_eq.mpr c29
     clear c29
     simp only [Option.some.injEq, Prod.mk.injEq] at H
     obtain ⟨rfl, rfl⟩ := H
     go_enter Try.func42, Try.ntmps42
     go_wp2_with (first | ((with_reducible refine gate_callee (f := 48) rfl ?_); refine goesL_ (some 15) rfl rfl Try.func48 (by kernel_rfl) rfl #[.string a0, .int .i64 a1, .string (⟨#[60, 33, 45, 45]⟩ : ByteArray)] rfl ar_ ?_; (with_reducible refine (topiaryref12_begins.calls a0 a1 (⟨#[60, 33, 45, 45]⟩ : ByteArray) false _ A3.out).mono ?_); rintro e w' ⟨rfl, ⟨nd, rfl⟩⟩; refine ⟨_, rfl, ?_⟩) | ((with_reducible refine gate_callee (f := 48) rfl ?_); refine goesL_ (some 40) rfl rfl Try.func48 (by kernel_rfl) rfl #[.string a0, .int .i64 a1, .string (⟨#[60, 33, 91, 67, 68, 65, 84, 65, 91]⟩ : ByteArray)] rfl ar_ ?_; (with_reducible refine (topiaryref12_begins.calls a0 a1 (⟨#[60, 33, 91, 67, 68, 65, 84, 65, 91]⟩ : ByteArray) false _ A15.out).mono ?_); rintro e w' ⟨rfl, ⟨nd, rfl⟩⟩; refine ⟨_, rfl, ?_⟩) | ((with_reducible refine gate_callee (f := 48) rfl ?_); refine goesL_ (some 59) rfl rfl Try.func48 (by kernel_rfl) rfl #[.string a0, .int .i64 a1, .string (⟨#[60, 47]⟩ : ByteArray)] rfl ar_ ?_; (with_reducible refine (topiaryref12_begins.calls a0 a1 (⟨#[60, 47]⟩ : ByteArray) true _ A25.out).mono ?_); rintro e w' ⟨rfl, ⟨nd, rfl⟩⟩; refine ⟨_, rfl, ?_⟩) | ((with_reducible refine gate_callee (f := 50) rfl ?_); refine goesL_ (some 63) rfl rfl Try.func50 (by kernel_rfl) rfl #[.string a0, .int .i64 (wrap64 (a1 + 2))] rfl ar_ ?_; (with_reducible refine (topiaryref11_NameEnd.calls k a0 (wrap64 (a1 + 2)) t187 _ A27.out).mono ?_); rintro e w' ⟨rfl, ⟨nd, rfl⟩⟩; refine ⟨_, rfl, ?_⟩) | ((with_reducible refine gate_callee (f := 43) rfl ?_); refine goesL_ (some 66) rfl rfl Try.func43 (by kernel_rfl) rfl #[.string a0, .int .i64 t187] rfl ar_ ?_; (with_reducible refine (topiaryref11_Skip.calls k a0 t187 t188 _ A28.out).mono ?_); rintro e w' ⟨rfl, ⟨nd, rfl⟩⟩; refine ⟨_, rfl, ?_⟩))
     go_ret2
     exact ⟨_, by first | rfl | (simp [errW_none, errW_some] <;> rfl) | (simp [*, errW_none, errW_some] <;> rfl), by first | exact Kd.R_nil _ _ _ _ _ | exact Kd.N_nil _ _ _ _ _ | exact Kd.V_nil _ _ _ _ _ | exact Kd.Q_nil _ _ _ _ _ | exact Kd.S_nil _ _ _ _ _, bb_ HB.out⟩
    ·rw [if_neg c29] at H
     have c29b0 : (t187 == (wrap64 (a1 + 2))) = false := beq_eq_false_iff_ne.mpr c29
     have c29b1 : (t187 != (wrap64 (a1 + 2))) = true := bne_iff_ne.mpr c29
     replace H := Option.bind_eq_some_iff.mp H
     obtain ⟨t189, A300, H⟩ := H
     try dsimp only at H
     have A30 := Aside0.mk A300
     clear A300
     by_cases c31 : t189 = true
     ·subst c31
      rw [if_pos rfl] at H
      have H1 := H
      clear H
      have H := H1
      clear H1
      obtain ⟨ji32, hji32⟩ : ∃ j_ : Int, (wrap64 (a1 + 2)) = j_ := ⟨_, rfl⟩
      replace H : (if 0 ≤ (ji32) then (if (ji32) ≤ t187 then (if t187 ≤ (a0.size : Int) then (some ((([(⟨5, a1, wrap64 (t188 + 1), a0.extract ((ji32) : Int).toNat (t187 : Int).toNat, (⟨#[]⟩ : ByteArray)⟩ : S71)] : List (S71))), true)) else (none)) else (none)) else (none)) = some (r1, r2) := by first | (rw [hji32] at H; exact H) | (simp only [hji32] at H ⊢; exact H)
      (try rw [hji32] at c29b0)
      (try rw [hji32] at c29b1)
      (try rw [hji32] at A3)
      (try rw [hji32] at A15)
      (try rw [hji32] at A25)
      (try rw [hji32] at A27)
      (try rw [hji32] at A28)
      (try rw [hji32] at A30)
      have hji32w : (IntKind.i64.wrap (a1 + 2)) = ji32 := (i64_w _).trans hji32
      by_cases c33 : 0 ≤ (ji32)
      ·rw [if_pos c33] at H
       have c33b0 := eq_true c33
       have c33b1 : decide (0 ≤ (ji32)) = true := decide_eq_true c33
       clear c33
       by_cases c34 : (ji32) ≤ t187
       ·rw [if_pos c34] at H
        have c34b0 := eq_true c34
        have c34b1 : decide ((ji32) ≤ t187) = true := decide_eq_true c34
        clear c34
        by_cases c35 : t187 ≤ (a0.size : Int)
        ·rw [if_pos c35] at H
         have c35b0 := eq_true c35
         have c35b1 : decide (t187 ≤ (a0.size : Int)) = true := decide_eq_true c35
         clear c35
         obtain ⟨y190, hy190⟩ : ∃ y_ : List (S71), y_ = (([(⟨5, a1, wrap64 (t188 + 1), a0.extract ((ji32) : Int).toNat (t187 : Int).toNat, (⟨#[]⟩ : ByteArray)⟩ : S71)] : List (S71))) := ⟨_, rfl⟩
         replace H : (some (y190, true)) = some (r1, r2) := by first | (rw [hy190]; with_reducible exact H) | (have H2_ := (Option.bind_some _ _).symm.trans H; rw [hy190]; with_reducible exact H2_) | (have H2_ := (Option.bind_some _ _).symm.trans H; with_reducible exact H2_) | with_reducible exact H | (rw [hy190]; exact H) | exact H
         have Ny190 := Aside0.mk hy190
         clear hy190
         simp only [Option.some.injEq, Prod.mk.injEq] at H
         obtain ⟨rfl, rfl⟩ := H
         go_enter Try.func42, Try.ntmps42
         go_wp2_with (first | ((with_reducible refine gate_callee (f := 48) rfl ?_); refine goesL_ (some 15) rfl rfl Try.func48 (by kernel_rfl) rfl #[.string a0, .int .i64 a1, .string (⟨#[60, 33, 45, 45]⟩ : ByteArray)] rfl ar_ ?_; (with_reducible refine (topiaryref12_begins.calls a0 a1 (⟨#[60, 33, 45, 45]⟩ : ByteArray) false _ A3.out).mono ?_); rintro e w' ⟨rfl, ⟨nd, rfl⟩⟩; refine ⟨_, rfl, ?_⟩) | ((with_reducible refine gate_callee (f := 48) rfl ?_); refine goesL_ (some 40) rfl rfl Try.func48 (by kernel_rfl) rfl #[.string a0, .int .i64 a1, .string (⟨#[60, 33, 91, 67, 68, 65, 84, 65, 91]⟩ : ByteArray)] rfl ar_ ?_; (with_reducible refine (topiaryref12_begins.calls a0 a1 (⟨#[60, 33, 91, 67, 68, 65, 84, 65, 91]⟩ : ByteArray) false _ A15.out).mono ?_); rintro e w' ⟨rfl, ⟨nd, rfl⟩⟩; refine ⟨_, rfl, ?_⟩) | ((with_reducible refine gate_callee (f := 48) rfl ?_); refine goesL_ (some 59) rfl rfl Try.func48 (by kernel_rfl) rfl #[.string a0, .int .i64 a1, .string (⟨#[60, 47]⟩ : ByteArray)] rfl ar_ ?_; (with_reducible refine (topiaryref12_begins.calls a0 a1 (⟨#[60, 47]⟩ : ByteArray) true _ A25.out).mono ?_); rintro e w' ⟨rfl, ⟨nd, rfl⟩⟩; refine ⟨_, rfl, ?_⟩) | ((with_reducible refine gate_callee (f := 50) rfl ?_); refine goesL_ (some 63) rfl rfl Try.func50 (by kernel_rfl) rfl #[.string a0, .int .i64 ji32] rfl (by (try simp only [List.map_toArray, List.map_cons, List.map_nil]); first | done | (simp only [hji32]; rfl) | rfl | (simp only [List.length_drop, List.length_take]; rfl)) ?_; (with_reducible refine (topiaryref11_NameEnd.calls k a0 ji32 t187 _ A27.out).mono ?_); rintro e w' ⟨rfl, ⟨nd, rfl⟩⟩; refine ⟨_, rfl, ?_⟩) | ((with_reducible refine gate_callee (f := 43) rfl ?_); refine goesL_ (some 66) rfl rfl Try.func43 (by kernel_rfl) rfl #[.string a0, .int .i64 t187] rfl ar_ ?_; (with_reducible refine (topiaryref11_Skip.calls k a0 t187 t188 _ A28.out).mono ?_); rintro e w' ⟨rfl, ⟨nd, rfl⟩⟩; refine ⟨_, rfl, ?_⟩) | (go_at_call 48; (with_reducible refine (topiaryref12_begins.calls a0 t188 (⟨#[62]⟩ : ByteArray) true _ A30.out).mono ?_); rintro e w' ⟨rfl, ⟨nd, rfl⟩⟩) | ((with_reducible refine gate_dst (N := 86) rfl ?_); refine Kd.R_lit k71 _ 71 ?hg (N := 86) ?hd (xs := ([(⟨5, a1, wrap64 (t188 + 1), a0.extract ((ji32) : Int).toNat (t187 : Int).toNat, (⟨#[]⟩ : ByteArray)⟩ : S71)] : List (S71))) (inner := [.int .i64 5, .int .i64 a1, .int .i64 (wrap64 (t188 + 1)), .string (a0.extract ((ji32) : Int).toNat (t187 : Int).toNat), .string (⟨#[]⟩ : ByteArray)]) (ok := fun _ => True) (okp := fun _ => True) ?hr ?hp (fun _ hk => hk) trivial (Below.refl _ _) (Nat.le_refl _) (by simp) ?_; (case hd => rfl); (case hg => rfl); (case hr => first | (go_simp; done) | (go_simp; rfl)); (case hp => exact (Reps.c5 (show Kd.M k71 _ _ _ (⟨5, a1, wrap64 (t188 + 1), a0.extract ((ji32) : Int).toNat (t187 : Int).toNat, (⟨#[]⟩ : ByteArray)⟩ : S71) [.int .i64 5, .int .i64 a1, .int .i64 (wrap64 (t188 + 1)), .string (a0.extract ((ji32) : Int).toNat (t187 : Int).toNat), .string (⟨#[]⟩ : ByteArray)] from (k71_mkM _ _ _ (⟨5, a1, wrap64 (t188 + 1), a0.extract ((ji32) : Int).toNat (t187 : Int).toNat, (⟨#[]⟩ : ByteArray)⟩ : S71) )) (Reps.none _ _))); intro v191 w36 ho37 hb hg_ hnew_; clear hg_ hnew_; (first | rw [← Ny190.out] at ho37 | (simp only [Int.reduceToNat] at ho37; rw [← Ny190.out] at ho37)); have n0_ := Aside0.mk (Kd.R_lower ho37 (below_size (bb_ HB.out))); have n1_ := Aside0.mk (below_step (bb_ HB.out) hb); clear HB; have HO192 := n0_; have HB := n1_; clear n0_ n1_; clear hb ho37))
         go_ret2
         exact ⟨_, by first | rfl | (simp [errW_none, errW_some] <;> rfl) | (simp only [← hji32]; first | rfl | (simp [errW_none, errW_some] <;> rfl)) | (simp [*, errW_none, errW_some] <;> rfl), rr_ HO192.out, bb_ HB.out⟩
        ·rw [if_neg c35] at H
         exact absurd H (by simp)
       ·rw [if_neg c34] at H
        exact absurd H (by simp)
      ·rw [if_neg c33] at H
       exact absurd H (by simp)
     ·replace c31 := Bool.eq_false_iff.mpr c31
      subst c31
      rw [if_neg (show ¬ (false = true) by decide)] at H
      have H1 := H
      clear H
      have H := H1
      clear H1
      simp only [Option.some.injEq, Prod.mk.injEq] at H
      obtain ⟨rfl, rfl⟩ := H
      go_enter Try.func42, Try.ntmps42
      go_wp2_with (first | ((with_reducible refine gate_callee (f := 48) rfl ?_); refine goesL_ (some 15) rfl rfl Try.func48 (by kernel_rfl) rfl #[.string a0, .int .i64 a1, .string (⟨#[60, 33, 45, 45]⟩ : ByteArray)] rfl ar_ ?_; (with_reducible refine (topiaryref12_begins.calls a0 a1 (⟨#[60, 33, 45, 45]⟩ : ByteArray) false _ A3.out).mono ?_); rintro e w' ⟨rfl, ⟨nd, rfl⟩⟩; refine ⟨_, rfl, ?_⟩) | ((with_reducible refine gate_callee (f := 48) rfl ?_); refine goesL_ (some 40) rfl rfl Try.func48 (by kernel_rfl) rfl #[.string a0, .int .i64 a1, .string (⟨#[60, 33, 91, 67, 68, 65, 84, 65, 91]⟩ : ByteArray)] rfl ar_ ?_; (with_reducible refine (topiaryref12_begins.calls a0 a1 (⟨#[60, 33, 91, 67, 68, 65, 84, 65, 91]⟩ : ByteArray) false _ A15.out).mono ?_); rintro e w' ⟨rfl, ⟨nd, rfl⟩⟩; refine ⟨_, rfl, ?_⟩) | ((with_reducible refine gate_callee (f := 48) rfl ?_); refine goesL_ (some 59) rfl rfl Try.func48 (by kernel_rfl) rfl #[.string a0, .int .i64 a1, .string (⟨#[60, 47]⟩ : ByteArray)] rfl ar_ ?_; (with_reducible refine (topiaryref12_begins.calls a0 a1 (⟨#[60, 47]⟩ : ByteArray) true _ A25.out).mono ?_); rintro e w' ⟨rfl, ⟨nd, rfl⟩⟩; refine ⟨_, rfl, ?_⟩) | ((with_reducible refine gate_callee (f := 50) rfl ?_); refine goesL_ (some 63) rfl rfl Try.func50 (by kernel_rfl) rfl #[.string a0, .int .i64 (wrap64 (a1 + 2))] rfl ar_ ?_; (with_reducible refine (topiaryref11_NameEnd.calls k a0 (wrap64 (a1 + 2)) t187 _ A27.out).mono ?_); rintro e w' ⟨rfl, ⟨nd, rfl⟩⟩; refine ⟨_, rfl, ?_⟩) | ((with_reducible refine gate_callee (f := 43) rfl ?_); refine goesL_ (some 66) rfl rfl Try.func43 (by kernel_rfl) rfl #[.string a0, .int .i64 t187] rfl ar_ ?_; (with_reducible refine (topiaryref11_Skip.calls k a0 t187 t188 _ A28.out).mono ?_); rintro e w' ⟨rfl, ⟨nd, rfl⟩⟩; refine ⟨_, rfl, ?_⟩) | (go_at_call 48; (with_reducible refine (topiaryref12_begins.calls a0 t188 (⟨#[62]⟩ : ByteArray) false _ A30.out).mono ?_); rintro e w' ⟨rfl, ⟨nd, rfl⟩⟩))
      go_ret2
      exact ⟨_, by first | rfl | (simp [errW_none, errW_some] <;> rfl) | (simp [*, errW_none, errW_some] <;> rfl), by first | exact Kd.R_nil _ _ _ _ _ | exact Kd.N_nil _ _ _ _ _ | exact Kd.V_nil _ _ _ _ _ | exact Kd.Q_nil _ _ _ _ _ | exact Kd.S_nil _ _ _ _ _, bb_ HB.out⟩
   ·replace c26 := Bool.eq_false_iff.mpr c26
    subst c26
    rw [if_neg (show ¬ (false = true) by decide)] at H
    have H1 := H
    clear H
    have H := H1
    clear H1
    replace H := Option.bind_eq_some_iff.mp H
    obtain ⟨t193, A380, H⟩ := H
    try dsimp only at H
    have A38 := Aside0.mk A380
    clear A380
    by_cases c39 : t193 = true
    ·subst c39
     rw [if_pos rfl] at H
     have H1 := H
     clear H
     have H := H1
     clear H1
     replace H := Option.bind_eq_some_iff.mp H
     obtain ⟨⟨t194, t195⟩, A400, H⟩ := H
     try dsimp only at H
     have A40 := Aside0.mk A400
     clear A400
     simp only [Option.some.injEq, Prod.mk.injEq] at H
     obtain ⟨rfl, rfl⟩ := H
     go_enter Try.func42, Try.ntmps42
     go_wp2_with (first | ((with_reducible refine gate_callee (f := 48) rfl ?_); refine goesL_ (some 15) rfl rfl Try.func48 (by kernel_rfl) rfl #[.string a0, .int .i64 a1, .string (⟨#[60, 33, 45, 45]⟩ : ByteArray)] rfl ar_ ?_; (with_reducible refine (topiaryref12_begins.calls a0 a1 (⟨#[60, 33, 45, 45]⟩ : ByteArray) false _ A3.out).mono ?_); rintro e w' ⟨rfl, ⟨nd, rfl⟩⟩; refine ⟨_, rfl, ?_⟩) | ((with_reducible refine gate_callee (f := 48) rfl ?_); refine goesL_ (some 40) rfl rfl Try.func48 (by kernel_rfl) rfl #[.string a0, .int .i64 a1, .string (⟨#[60, 33, 91, 67, 68, 65, 84, 65, 91]⟩ : ByteArray)] rfl ar_ ?_; (with_reducible refine (topiaryref12_begins.calls a0 a1 (⟨#[60, 33, 91, 67, 68, 65, 84, 65, 91]⟩ : ByteArray) false _ A15.out).mono ?_); rintro e w' ⟨rfl, ⟨nd, rfl⟩⟩; refine ⟨_, rfl, ?_⟩) | ((with_reducible refine gate_callee (f := 48) rfl ?_); refine goesL_ (some 59) rfl rfl Try.func48 (by kernel_rfl) rfl #[.string a0, .int .i64 a1, .string (⟨#[60, 47]⟩ : ByteArray)] rfl ar_ ?_; (with_reducible refine (topiaryref12_begins.calls a0 a1 (⟨#[60, 47]⟩ : ByteArray) false _ A25.out).mono ?_); rintro e w' ⟨rfl, ⟨nd, rfl⟩⟩; refine ⟨_, rfl, ?_⟩) | ((with_reducible refine gate_callee (f := 48) rfl ?_); refine goesL_ (some 89) rfl rfl Try.func48 (by kernel_rfl) rfl #[.string a0, .int .i64 a1, .string (⟨#[60]⟩ : ByteArray)] rfl ar_ ?_; (with_reducible refine (topiaryref12_begins.calls a0 a1 (⟨#[60]⟩ : ByteArray) true _ A38.out).mono ?_); rintro e w' ⟨rfl, ⟨nd, rfl⟩⟩; refine ⟨_, rfl, ?_⟩) | ((with_reducible refine gate_callee (f := 51) rfl ?_); refine goesL_ (some 92) rfl rfl Try.func51 (by kernel_rfl) rfl #[.string a0, .int .i64 a1] rfl ar_ ?_; (with_reducible refine (topiaryref12_tag.calls k a0 a1 t194 t195 _ A40.out).mono ?_); rintro e w41 ⟨v196, rfl, ho0, hb⟩; refine ⟨_, rfl, ?_⟩; have n0_ := Aside0.mk (Kd.R_lower ho0 (below_size (bb_ HB.out))); have n1_ := Aside0.mk (below_step (bb_ HB.out) hb); clear HB; have HO197 := n0_; have HB := n1_; clear n0_ n1_; (try clear hb); (try clear hb2); (try clear hk); (try clear hi); (try clear ho0)))
     go_ret2
     exact ⟨_, by first | rfl | (simp [errW_none, errW_some] <;> rfl) | (simp [*, errW_none, errW_some] <;> rfl), rr_ HO197.out, bb_ HB.out⟩
    ·replace c39 := Bool.eq_false_iff.mpr c39
     subst c39
     rw [if_neg (show ¬ (false = true) by decide)] at H
     have H1 := H
     clear H
     have H := H1
     clear H1
     replace H := Option.bind_eq_some_iff.mp H
     obtain ⟨t198, A420, H⟩ := H
     try dsimp only at H
     have A42 := Aside0.mk A420
     clear A420
     by_cases c43 : t198 < 0
     ·rw [if_pos c43] at H
      have c43b0 : decide (t198 < 0) = true := decide_eq_true c43
      clear c43
      by_cases c44 : 0 ≤ a1
      ·rw [if_pos c44] at H
       have c44b0 := eq_true c44
       have c44b1 : decide (0 ≤ a1) = true := decide_eq_true c44
       clear c44
       by_cases c45 : a1 ≤ (a0.size : Int)
       ·rw [if_pos c45] at H
        have c45b0 := eq_true c45
        have c45b1 : decide (a1 ≤ (a0.size : Int)) = true := decide_eq_true c45
        clear c45
        by_cases c46 : (a0.size : Int) ≤ (a0.size : Int)
        ·rw [if_pos c46] at H
         have c46b0 := eq_true c46
         have c46b1 : decide ((a0.size : Int) ≤ (a0.size : Int)) = true := decide_eq_true c46
         clear c46
         replace H := Option.bind_eq_some_iff.mp H
         obtain ⟨⟨t199, t200⟩, A470, H⟩ := H
         try dsimp only at H
         have A47 := Aside0.mk A470
         clear A470
         obtain ⟨y201, hy201⟩ : ∃ y_ : List (S71), y_ = (([(⟨6, a1, (a0.size : Int), (⟨#[]⟩ : ByteArray), t199⟩ : S71)] : List (S71))) := ⟨_, rfl⟩
         replace H : (some (y201, t200)) = some (r1, r2) := by first | (rw [hy201]; with_reducible exact H) | (have H2_ := (Option.bind_some _ _).symm.trans H; rw [hy201]; with_reducible exact H2_) | (have H2_ := (Option.bind_some _ _).symm.trans H; with_reducible exact H2_) | with_reducible exact H | (rw [hy201]; exact H) | exact H
         have Ny201 := Aside0.mk hy201
         clear hy201
         simp only [Option.some.injEq, Prod.mk.injEq] at H
         obtain ⟨rfl, rfl⟩ := H
         go_enter Try.func42, Try.ntmps42
         go_wp2_with (first | ((with_reducible refine gate_callee (f := 48) rfl ?_); refine goesL_ (some 15) rfl rfl Try.func48 (by kernel_rfl) rfl #[.string a0, .int .i64 a1, .string (⟨#[60, 33, 45, 45]⟩ : ByteArray)] rfl ar_ ?_; (with_reducible refine (topiaryref12_begins.calls a0 a1 (⟨#[60, 33, 45, 45]⟩ : ByteArray) false _ A3.out).mono ?_); rintro e w' ⟨rfl, ⟨nd, rfl⟩⟩; refine ⟨_, rfl, ?_⟩) | ((with_reducible refine gate_callee (f := 48) rfl ?_); refine goesL_ (some 40) rfl rfl Try.func48 (by kernel_rfl) rfl #[.string a0, .int .i64 a1, .string (⟨#[60, 33, 91, 67, 68, 65, 84, 65, 91]⟩ : ByteArray)] rfl ar_ ?_; (with_reducible refine (topiaryref12_begins.calls a0 a1 (⟨#[60, 33, 91, 67, 68, 65, 84, 65, 91]⟩ : ByteArray) false _ A15.out).mono ?_); rintro e w' ⟨rfl, ⟨nd, rfl⟩⟩; refine ⟨_, rfl, ?_⟩) | ((with_reducible refine gate_callee (f := 48) rfl ?_); refine goesL_ (some 59) rfl rfl Try.func48 (by kernel_rfl) rfl #[.string a0, .int .i64 a1, .string (⟨#[60, 47]⟩ : ByteArray)] rfl ar_ ?_; (with_reducible refine (topiaryref12_begins.calls a0 a1 (⟨#[60, 47]⟩ : ByteArray) false _ A25.out).mono ?_); rintro e w' ⟨rfl, ⟨nd, rfl⟩⟩; refine ⟨_, rfl, ?_⟩) | ((with_reducible refine gate_callee (f := 48) rfl ?_); refine goesL_ (some 89) rfl rfl Try.func48 (by kernel_rfl) rfl #[.string a0, .int .i64 a1, .string (⟨#[60]⟩ : ByteArray)] rfl ar_ ?_; (with_reducible refine (topiaryref12_begins.calls a0 a1 (⟨#[60]⟩ : ByteArray) false _ A38.out).mono ?_); rintro e w' ⟨rfl, ⟨nd, rfl⟩⟩; refine ⟨_, rfl, ?_⟩) | ((with_reducible refine gate_callee (f := 49) rfl ?_); refine goesL_ (some 97) rfl rfl Try.func49 (by kernel_rfl) rfl #[.string a0, .int .i64 a1, .string (⟨#[60]⟩ : ByteArray)] rfl ar_ ?_; (with_reducible refine (topiaryref12_find.calls k a0 a1 (⟨#[60]⟩ : ByteArray) t198 _ A42.out).mono ?_); rintro e w' ⟨rfl, ⟨nd, rfl⟩⟩; refine ⟨_, rfl, ?_⟩) | ((with_reducible refine gate_callee (f := 52) rfl ?_); refine goesL_ (some 107) rfl rfl Try.func52 (by kernel_rfl) rfl #[.string (a0.extract (a1 : Int).toNat ((a0.size : Int) : Int).toNat)] rfl ar_ ?_; (with_reducible refine (topiaryref12_decoded.calls k (a0.extract (a1 : Int).toNat ((a0.size : Int) : Int).toNat) t199 t200 _ A47.out).mono ?_); rintro e w48 ⟨rfl, hb⟩; refine ⟨_, rfl, ?_⟩; have n0_ := Aside0.mk (below_step (bb_ HB.out) hb); clear HB; have HB := n0_; clear n0_; (try clear hb); (try clear hb2); (try clear hk); (try clear hi)) | ((with_reducible refine gate_dst (N := 114) rfl ?_); refine Kd.R_lit k71 _ 71 ?hg (N := 114) ?hd (xs := ([(⟨6, a1, (a0.size : Int), (⟨#[]⟩ : ByteArray), t199⟩ : S71)] : List (S71))) (inner := [.int .i64 6, .int .i64 a1, .int .i64 (a0.size : Int), .string (⟨#[]⟩ : ByteArray), .string t199]) (ok := fun _ => True) (okp := fun _ => True) ?hr ?hp (fun _ hk => hk) trivial (Below.refl _ _) (Nat.le_refl _) (by simp) ?_; (case hd => rfl); (case hg => rfl); (case hr => first | (go_simp; done) | (go_simp; rfl)); (case hp => exact (Reps.c5 (show Kd.M k71 _ _ _ (⟨6, a1, (a0.size : Int), (⟨#[]⟩ : ByteArray), t199⟩ : S71) [.int .i64 6, .int .i64 a1, .int .i64 (a0.size : Int), .string (⟨#[]⟩ : ByteArray), .string t199] from (k71_mkM _ _ _ (⟨6, a1, (a0.size : Int), (⟨#[]⟩ : ByteArray), t199⟩ : S71) )) (Reps.none _ _))); intro v202 w49 ho50 hb hg_ hnew_; clear hg_ hnew_; (first | rw [← Ny201.out] at ho50 | (simp only [Int.reduceToNat] at ho50; rw [← Ny201.out] at ho50)); have n0_ := Aside0.mk (Kd.R_lower ho50 (below_size (bb_ HB.out))); have n1_ := Aside0.mk (below_step (bb_ HB.out) hb); clear HB; have HO203 := n0_; have HB := n1_; clear n0_ n1_; clear hb ho50))
         go_ret2
         exact ⟨_, by first | rfl | (simp [errW_none, errW_some] <;> rfl) | (simp [*, errW_none, errW_some] <;> rfl), rr_ HO203.out, bb_ HB.out⟩
        ·rw [if_neg c46] at H
         exact absurd H (by simp)
       ·rw [if_neg c45] at H
        exact absurd H (by simp)
      ·rw [if_neg c44] at H
       exact absurd H (by simp)
     ·rw [if_neg c43] at H
      have c43b0 : decide (t198 < 0) = false := decide_eq_false c43
      clear c43
      by_cases c51 : 0 ≤ a1
      ·rw [if_pos c51] at H
       have c51b0 := eq_true c51
       have c51b1 : decide (0 ≤ a1) = true := decide_eq_true c51
       clear c51
       by_cases c52 : a1 ≤ t198
       ·rw [if_pos c52] at H
        have c52b0 := eq_true c52
        have c52b1 : decide (a1 ≤ t198) = true := decide_eq_true c52
        clear c52
        by_cases c53 : t198 ≤ (a0.size : Int)
        ·rw [if_pos c53] at H
         have c53b0 := eq_true c53
         have c53b1 : decide (t198 ≤ (a0.size : Int)) = true := decide_eq_true c53
         clear c53
         replace H := Option.bind_eq_some_iff.mp H
         obtain ⟨⟨t204, t205⟩, A540, H⟩ := H
         try dsimp only at H
         have A54 := Aside0.mk A540
         clear A540
         obtain ⟨y206, hy206⟩ : ∃ y_ : List (S71), y_ = (([(⟨6, a1, t198, (⟨#[]⟩ : ByteArray), t204⟩ : S71)] : List (S71))) := ⟨_, rfl⟩
         replace H : (some (y206, t205)) = some (r1, r2) := by first | (rw [hy206]; with_reducible exact H) | (have H2_ := (Option.bind_some _ _).symm.trans H; rw [hy206]; with_reducible exact H2_) | (have H2_ := (Option.bind_some _ _).symm.trans H; with_reducible exact H2_) | with_reducible exact H | (rw [hy206]; exact H) | exact H
         have Ny206 := Aside0.mk hy206
         clear hy206
         simp only [Option.some.injEq, Prod.mk.injEq] at H
         obtain ⟨rfl, rfl⟩ := H
         go_enter Try.func42, Try.ntmps42
         go_wp2_with (first | ((with_reducible refine gate_callee (f := 48) rfl ?_); refine goesL_ (some 15) rfl rfl Try.func48 (by kernel_rfl) rfl #[.string a0, .int .i64 a1, .string (⟨#[60, 33, 45, 45]⟩ : ByteArray)] rfl ar_ ?_; (with_reducible refine (topiaryref12_begins.calls a0 a1 (⟨#[60, 33, 45, 45]⟩ : ByteArray) false _ A3.out).mono ?_); rintro e w' ⟨rfl, ⟨nd, rfl⟩⟩; refine ⟨_, rfl, ?_⟩) | ((with_reducible refine gate_callee (f := 48) rfl ?_); refine goesL_ (some 40) rfl rfl Try.func48 (by kernel_rfl) rfl #[.string a0, .int .i64 a1, .string (⟨#[60, 33, 91, 67, 68, 65, 84, 65, 91]⟩ : ByteArray)] rfl ar_ ?_; (with_reducible refine (topiaryref12_begins.calls a0 a1 (⟨#[60, 33, 91, 67, 68, 65, 84, 65, 91]⟩ : ByteArray) false _ A15.out).mono ?_); rintro e w' ⟨rfl, ⟨nd, rfl⟩⟩; refine ⟨_, rfl, ?_⟩) | ((with_reducible refine gate_callee (f := 48) rfl ?_); refine goesL_ (some 59) rfl rfl Try.func48 (by kernel_rfl) rfl #[.string a0, .int .i64 a1, .string (⟨#[60, 47]⟩ : ByteArray)] rfl ar_ ?_; (with_reducible refine (topiaryref12_begins.calls a0 a1 (⟨#[60, 47]⟩ : ByteArray) false _ A25.out).mono ?_); rintro e w' ⟨rfl, ⟨nd, rfl⟩⟩; refine ⟨_, rfl, ?_⟩) | ((with_reducible refine gate_callee (f := 48) rfl ?_); refine goesL_ (some 89) rfl rfl Try.func48 (by kernel_rfl) rfl #[.string a0, .int .i64 a1, .string (⟨#[60]⟩ : ByteArray)] rfl ar_ ?_; (with_reducible refine (topiaryref12_begins.calls a0 a1 (⟨#[60]⟩ : ByteArray) false _ A38.out).mono ?_); rintro e w' ⟨rfl, ⟨nd, rfl⟩⟩; refine ⟨_, rfl, ?_⟩) | ((with_reducible refine gate_callee (f := 49) rfl ?_); refine goesL_ (some 97) rfl rfl Try.func49 (by kernel_rfl) rfl #[.string a0, .int .i64 a1, .string (⟨#[60]⟩ : ByteArray)] rfl ar_ ?_; (with_reducible refine (topiaryref12_find.calls k a0 a1 (⟨#[60]⟩ : ByteArray) t198 _ A42.out).mono ?_); rintro e w' ⟨rfl, ⟨nd, rfl⟩⟩; refine ⟨_, rfl, ?_⟩) | ((with_reducible refine gate_callee (f := 52) rfl ?_); refine goesL_ (some 107) rfl rfl Try.func52 (by kernel_rfl) rfl #[.string (a0.extract (a1 : Int).toNat (t198 : Int).toNat)] rfl ar_ ?_; (with_reducible refine (topiaryref12_decoded.calls k (a0.extract (a1 : Int).toNat (t198 : Int).toNat) t204 t205 _ A54.out).mono ?_); rintro e w55 ⟨rfl, hb⟩; refine ⟨_, rfl, ?_⟩; have n0_ := Aside0.mk (below_step (bb_ HB.out) hb); clear HB; have HB := n0_; clear n0_; (try clear hb); (try clear hb2); (try clear hk); (try clear hi)) | ((with_reducible refine gate_dst (N := 114) rfl ?_); refine Kd.R_lit k71 _ 71 ?hg (N := 114) ?hd (xs := ([(⟨6, a1, t198, (⟨#[]⟩ : ByteArray), t204⟩ : S71)] : List (S71))) (inner := [.int .i64 6, .int .i64 a1, .int .i64 t198, .string (⟨#[]⟩ : ByteArray), .string t204]) (ok := fun _ => True) (okp := fun _ => True) ?hr ?hp (fun _ hk => hk) trivial (Below.refl _ _) (Nat.le_refl _) (by simp) ?_; (case hd => rfl); (case hg => rfl); (case hr => first | (go_simp; done) | (go_simp; rfl)); (case hp => exact (Reps.c5 (show Kd.M k71 _ _ _ (⟨6, a1, t198, (⟨#[]⟩ : ByteArray), t204⟩ : S71) [.int .i64 6, .int .i64 a1, .int .i64 t198, .string (⟨#[]⟩ : ByteArray), .string t204] from (k71_mkM _ _ _ (⟨6, a1, t198, (⟨#[]⟩ : ByteArray), t204⟩ : S71) )) (Reps.none _ _))); intro v207 w56 ho57 hb hg_ hnew_; clear hg_ hnew_; (first | rw [← Ny206.out] at ho57 | (simp only [Int.reduceToNat] at ho57; rw [← Ny206.out] at ho57)); have n0_ := Aside0.mk (Kd.R_lower ho57 (below_size (bb_ HB.out))); have n1_ := Aside0.mk (below_step (bb_ HB.out) hb); clear HB; have HO208 := n0_; have HB := n1_; clear n0_ n1_; clear hb ho57))
         go_ret2
         exact ⟨_, by first | rfl | (simp [errW_none, errW_some] <;> rfl) | (simp [*, errW_none, errW_some] <;> rfl), rr_ HO208.out, bb_ HB.out⟩
        ·rw [if_neg c53] at H
         exact absurd H (by simp)
       ·rw [if_neg c52] at H
        exact absurd H (by simp)
      ·rw [if_neg c51] at H
       exact absurd H (by simp)
def topiaryref12_Lex.l0 : Nat → ByteArray → List (S71) → Int → Option ((List (S71)) × Int)
 | 0, _, _, _ => none
 | k + 1, x0, x5, x6 => if x6 < (x0.size : Int) then ((topiaryref12_piece.f k x0 x6).bind fun bt210 => (if bt210.2 = true then (if (bt210.1.length : Int) = 0 then (some (([] : List (S71)), 15)) else (if x5.length + bt210.1.length < 2513169434916 then (if 0 ≤ (wrap64 ((bt210.1.length : Int) - 1)) then (if (wrap64 ((bt210.1.length : Int) - 1)) < (bt210.1.length : Int) then (topiaryref12_Lex.l0 k x0 (x5 ++ bt210.1) ((rd_T71 bt210.1 (wrap64 ((bt210.1.length : Int) - 1))).f2)) else (none)) else (none)) else (none))) else (some (([] : List (S71)), 15)))) else (some (x5, 0))
def topiaryref12_Lex.f (k : Nat) (a0 : ByteArray) : Option ((List (S71)) × Int) := if (a0.size : Int) > 65536 then (some (([] : List (S71)), 18)) else ((topiaryref11_Valid.f k a0).bind fun t209 => (if t209 = true then (topiaryref12_Lex.l0 k a0 ([] : List (S71)) 0) else (some (([] : List (S71)), 15))))
set_option maxHeartbeats 8000000 in
set_option maxRecDepth 100000 in
theorem topiaryref12_Lex.calls (k : Nat) (a0 : ByteArray) (r1 : List (S71)) (r2 : Int) (w : World) (h : topiaryref12_Lex.f k a0 = some (r1, r2)) :
  Calls Try.prog 35 #[.string a0] w fun e w' => ∃ v0_ : Value, e = .returned (.tuple #[v0_, .int .i64 r2]) ∧ Kd.R k71 71 w' w.heap.size (fun _ => True) v0_ r1 ∧ Below w.heap.size w w' := by
 have HB := Aside0.mk (Below.refl w.heap.size w)
 have H : (if (a0.size : Int) > 65536 then (some (([] : List (S71)), 18)) else ((topiaryref11_Valid.f k a0).bind fun t209 => (if t209 = true then (topiaryref12_Lex.l0 k a0 ([] : List (S71)) 0) else (some (([] : List (S71)), 15))))) = some (r1, r2) := h
 clear h
 by_cases c2 : (a0.size : Int) > 65536
 ·rw [if_pos c2] at H
  have c2b0 : decide (65536 < (a0.size : Int)) = true := decide_eq_true c2
  have c2b1 : decide (65536 < a0.size) = true := decide_eq_true (by omega)
  clear c2
  simp only [Option.some.injEq, Prod.mk.injEq] at H
  obtain ⟨rfl, rfl⟩ := H
  go_enter Try.func35, Try.ntmps35
  go_wp2
  go_ret2
  exact ⟨_, by first | rfl | (simp [errW_none, errW_some] <;> rfl) | (simp [*, errW_none, errW_some] <;> rfl), by first | exact Kd.R_nil _ _ _ _ _ | exact Kd.N_nil _ _ _ _ _ | exact Kd.V_nil _ _ _ _ _ | exact Kd.Q_nil _ _ _ _ _ | exact Kd.S_nil _ _ _ _ _, bb_ HB.out⟩
 ·rw [if_neg c2] at H
  have c2b0 : decide (65536 < (a0.size : Int)) = false := decide_eq_false c2
  have c2b1 : decide (65536 < a0.size) = false := decide_eq_false (by omega)
  clear c2
  replace H := Option.bind_eq_some_iff.mp H
  obtain ⟨t209, A30, H⟩ := H
  try dsimp only at H
  have A3 := Aside0.mk A30
  clear A30
  by_cases c4 : t209 = true
  ·subst c4
   rw [if_pos rfl] at H
   have H1 := H
   clear H
   have H := H1
   clear H1
   have H' := Aside0.mk H
   clear H
   go_enter Try.func35, Try.ntmps35
   go_wp2_with (first | ((with_reducible refine gate_callee (f := 41) rfl ?_); refine goesL_ (some 13) rfl rfl Try.func41 (by kernel_rfl) rfl #[.string a0] rfl ar_ ?_; (with_reducible refine (topiaryref11_Valid.calls k a0 true _ A3.out).mono ?_); rintro e w5 ⟨rfl, hb⟩; refine ⟨_, rfl, ?_⟩; have n0_ := Aside0.mk (below_step (bb_ HB.out) hb); clear HB; have HB := n0_; clear n0_; (try clear hb); (try clear hb2); (try clear hk); (try clear hi)))
   go_loopg [5, 6] k (fun kq v5 v6 w' => ∃ (x5_1 : List (S71)) (x6_1 : Int), v6 = .int .i64 x6_1 ∧ Aside0 (topiaryref12_Lex.l0 kq a0 x5_1 x6_1 = some (r1, r2)) ∧ Aside0 (kq ≤ k) ∧ Aside0 (Kd.R k71 71 w' w.heap.size (fun _ => True) v5 x5_1) ∧ Aside0 (Below w.heap.size w w'))
   case atStart => exact ⟨(([] : List (S71))), (0), sm_, H', ⟨Nat.le_refl _⟩, ⟨by first | exact Kd.R_nil _ _ _ _ _ | exact Kd.N_nil _ _ _ _ _ | exact Kd.V_nil _ _ _ _ _ | exact Kd.Q_nil _ _ _ _ _ | exact Kd.S_nil _ _ _ _ _⟩, ⟨bb_ HB.out⟩⟩
   case round =>
    clear H'
    try clear c2
    try clear c2b0
    try clear c2b1
    try clear p2
    try clear c3
    try clear c4
    obtain ⟨x5_1, x6_1, rfl, HA, HK1, HO_5, HB⟩ := hrel
    cases gk with
    | zero => exact absurd HA.out (by simp [topiaryref12_Lex.l0])
    | succ k1 =>
     have H := HA.out
     clear HA
     simp only [topiaryref12_Lex.l0] at H
     by_cases c6 : x6_1 < (a0.size : Int)
     ·rw [if_pos c6] at H
      have c6b0 : decide (x6_1 < (a0.size : Int)) = true := decide_eq_true c6
      clear c6
      replace H := Option.bind_eq_some_iff.mp H
      obtain ⟨⟨t210, t211⟩, A70, H⟩ := H
      try dsimp only at H
      have A7 := Aside0.mk A70
      clear A70
      by_cases c8 : t211 = true
      ·subst c8
       rw [if_pos rfl] at H
       have H1 := H
       clear H
       have H := H1
       clear H1
       by_cases c9 : (t210.length : Int) = 0
       ·rw [if_pos c9] at H
        have c9b0 : ((t210.length : Int) == 0) = true := beq_iff_eq.mpr c9
        have c9b1 : ((t210.length : Int) != 0) = false := bne_eq_false_iff_eq.mpr c9
        clear c9
        simp only [Option.some.injEq, Prod.mk.injEq] at H
        obtain ⟨rfl, rfl⟩ := H
        go_wp2_with (first | ((with_reducible refine gate_callee (f := 42) rfl ?_); refine goesL_ (some 23) rfl rfl Try.func42 (by kernel_rfl) rfl #[.string a0, .int .i64 x6_1] rfl ar_ ?_; (with_reducible refine (topiaryref12_piece.calls k1 a0 x6_1 t210 true _ A7.out).mono ?_); rintro e w10 ⟨v212, rfl, ho0, hb⟩; refine ⟨_, rfl, ?_⟩; have n0_ := Aside0.mk (Kd.R_elder' (rr_ HO_5.out) (Kd.R_base ho0) hb); have n1_ := Aside0.mk (Kd.R_lower (Kd.R_new' ho0 (Kd.R_lt (rr_ HO_5.out))) (below_size (bb_ HB.out))); have n2_ := Aside0.mk (below_step (bb_ HB.out) hb); clear HO_5; clear HB; have HO_5 := n0_; have HO213 := n1_; have HB := n2_; clear n0_ n1_ n2_; (try clear hb); (try clear hb2); (try clear hk); (try clear hi); (try clear ho0); obtain ⟨Ao11, co11, eo11⟩ := Kd.R_slice HO213.out; subst eo11))
        go_ret2
        exact ⟨_, by first | rfl | (simp [errW_none, errW_some] <;> rfl) | (simp [*, errW_none, errW_some] <;> rfl), by first | exact Kd.R_nil _ _ _ _ _ | exact Kd.N_nil _ _ _ _ _ | exact Kd.V_nil _ _ _ _ _ | exact Kd.Q_nil _ _ _ _ _ | exact Kd.S_nil _ _ _ _ _, bb_ HB.out⟩
       ·rw [if_neg c9] at H
        have c9b0 : ((t210.length : Int) == 0) = false := beq_eq_false_iff_ne.mpr c9
        have c9b1 : ((t210.length : Int) != 0) = true := bne_iff_ne.mpr c9
        have c9b2 : ¬ (t210 = []) := fun h_ => c9 (by rw [h_]; rfl)
        by_cases c12 : x5_1.length + t210.length < 2513169434916
        ·rw [if_pos c12] at H
         have LMc12 := Aside0.mk c12
         clear c12
         obtain ⟨y214, hy214⟩ : ∃ y_ : List (S71), y_ = (x5_1 ++ t210) := ⟨_, rfl⟩
         replace H : (if 0 ≤ (wrap64 ((t210.length : Int) - 1)) then (if (wrap64 ((t210.length : Int) - 1)) < (t210.length : Int) then (topiaryref12_Lex.l0 k1 a0 y214 ((rd_T71 t210 (wrap64 ((t210.length : Int) - 1))).f2)) else (none)) else (none)) = some (r1, r2) := by first | (rw [hy214]; with_reducible exact H) | (have H2_ := (Option.bind_some _ _).symm.trans H; rw [hy214]; with_reducible exact H2_) | (have H2_ := (Option.bind_some _ _).symm.trans H; with_reducible exact H2_) | with_reducible exact H | (rw [hy214]; exact H) | exact H
         have Ny214 := Aside0.mk hy214
         clear hy214
         obtain ⟨ji13, hji13⟩ : ∃ j_ : Int, (wrap64 ((t210.length : Int) - 1)) = j_ := ⟨_, rfl⟩
         replace H : (if 0 ≤ (ji13) then (if (ji13) < (t210.length : Int) then (topiaryref12_Lex.l0 k1 a0 y214 ((rd_T71 t210 (ji13)).f2)) else (none)) else (none)) = some (r1, r2) := by first | (rw [hji13] at H; exact H) | (simp only [hji13] at H ⊢; exact H)
         (try rw [hji13] at A7)
         have hji13w : (IntKind.i64.wrap ((t210.length : Int) - 1)) = ji13 := (i64_w _).trans hji13
         by_cases c14 : 0 ≤ (ji13)
         ·rw [if_pos c14] at H
          have c14b0 : decide (0 ≤ (ji13)) = true := decide_eq_true c14
          clear c14
          by_cases c15 : (ji13) < (t210.length : Int)
          ·rw [if_pos c15] at H
           have c15b0 : decide ((ji13) < (t210.length : Int)) = true := decide_eq_true c15
           clear c15
           have H' := Aside0.mk H
           clear H
           go_wp2_with (first | ((with_reducible refine gate_callee (f := 42) rfl ?_); refine goesL_ (some 23) rfl rfl Try.func42 (by kernel_rfl) rfl #[.string a0, .int .i64 x6_1] rfl ar_ ?_; (with_reducible refine (topiaryref12_piece.calls k1 a0 x6_1 t210 true _ A7.out).mono ?_); rintro e w16 ⟨v212, rfl, ho0, hb⟩; refine ⟨_, rfl, ?_⟩; have n0_ := Aside0.mk (Kd.R_elder' (rr_ HO_5.out) (Kd.R_base ho0) hb); have n1_ := Aside0.mk (Kd.R_lower (Kd.R_new' ho0 (Kd.R_lt (rr_ HO_5.out))) (below_size (bb_ HB.out))); have n2_ := Aside0.mk (below_step (bb_ HB.out) hb); clear HO_5; clear HB; have HO_5 := n0_; have HO213 := n1_; have HB := n2_; clear n0_ n1_ n2_; (try clear hb); (try clear hb2); (try clear hk); (try clear hi); (try clear ho0); obtain ⟨Ao17, co17, eo17⟩ := Kd.R_slice HO213.out; subst eo17) | ((with_reducible refine gate_builtin (b := .append) (xs := #[.tmp 33, .tmp 34]) rfl ?_); (try (refine gate_guard (by rfl) ?_; dsimp only)); at_builtin; refine Kd.R_append_rows k71 (w0 := w) w.heap.size rfl (.tmp 33) (.tmp 34) 58 71 (.agg #[(.int .i64 0), (.int .i64 0), (.int .i64 0), (.string ⟨#[]⟩), (.string ⟨#[]⟩)]) 56 rfl Try.underlying58 info71 rfl (by decide) (by omega) u5 x5_1 t210 _ _ _ (fun k_ => some k_ ≠ (.slice Ao17 t210.length co17 : Value).ownBlock) (fun _ => False) rfl rfl ?aO ?aR (fun _ _ h => h) (fun _ h => h.elim) ?aF ?aB ?aS ?aL ?_; (case aR => exact cc_ (Kd.R_reads' HO213.out).2.2); (case aB => exact (bb_ HB.out)); (case aF => exact (fun k_ hk => Kd.fresh' (Kd.R_lt (rr_ HO213.out)) k_ hk)); (case aO => exact (by (with_reducible repeat (first | apply Kd.R_alloc | apply Kd.R_drewN | apply Kd.R_drew)); exact Kd.R_mono HO_5.out (fun _ hk => hk.2))); (case aS => exact (below_size (bb_ HB.out))); (case aL => have := LMc12.out; omega); intro v215 w18 ho hb hg hat; rw [← Ny214.out] at ho; have n0_ := Aside0.mk (Kd.R_after (ok := (fun _ => True)) (rr_ HO213.out) hg hat); have n1_ := Aside0.mk (hb); have n2_ := Aside0.mk (ho); clear HO213; clear HB; clear HO_5; have HO213 := n0_; have HB := n1_; have HO216 := n2_; clear n0_ n1_ n2_; clear ho hb hg hat; have p217 : 0 ≤ ((ji13) : Int) := of_decide_eq_true as_; have q217 : (ji13) < (t210.length : Int) := of_decide_eq_true as_; obtain ⟨ad217, e217, hx217_0, hx217_1, hx217_2, hx217_3, hx217_4⟩ := at_T71 (Kd.R_reads' HO213.out).2.2 (ji13) p217 q217; cases e217; replace p217 := eq_true p217; replace q217 := eq_true q217))
           go_roundg k1
           case measure => have := HK1.out; omega
           case rel => exact ⟨(y214), ((rd_T71 t210 (ji13)).f2), (by first | rfl | (simp; done) | (simp only [← hji13] <;> (first | rfl | simp)) | (simp [*]; done)), H', ⟨by have := HK1.out; omega⟩, ⟨by (with_reducible repeat (first | apply Kd.R_alloc | apply Kd.R_drewN | apply Kd.R_drew)); exact Kd.R_mono HO216.out (fun _ hk => trivial)⟩, ⟨bb_ HB.out⟩⟩
          ·rw [if_neg c15] at H
           exact absurd H (by simp)
         ·rw [if_neg c14] at H
          exact absurd H (by simp)
        ·rw [if_neg c12] at H
         exact absurd H (by simp)
      ·replace c8 := Bool.eq_false_iff.mpr c8
       subst c8
       rw [if_neg (show ¬ (false = true) by decide)] at H
       have H1 := H
       clear H
       have H := H1
       clear H1
       simp only [Option.some.injEq, Prod.mk.injEq] at H
       obtain ⟨rfl, rfl⟩ := H
       go_wp2_with (first | ((with_reducible refine gate_callee (f := 42) rfl ?_); refine goesL_ (some 23) rfl rfl Try.func42 (by kernel_rfl) rfl #[.string a0, .int .i64 x6_1] rfl ar_ ?_; (with_reducible refine (topiaryref12_piece.calls k1 a0 x6_1 t210 false _ A7.out).mono ?_); rintro e w19 ⟨v212, rfl, ho0, hb⟩; refine ⟨_, rfl, ?_⟩; have n0_ := Aside0.mk (Kd.R_elder' (rr_ HO_5.out) (Kd.R_base ho0) hb); have n1_ := Aside0.mk (Kd.R_lower (Kd.R_new' ho0 (Kd.R_lt (rr_ HO_5.out))) (below_size (bb_ HB.out))); have n2_ := Aside0.mk (below_step (bb_ HB.out) hb); clear HO_5; clear HB; have HO_5 := n0_; have HO213 := n1_; have HB := n2_; clear n0_ n1_ n2_; (try clear hb); (try clear hb2); (try clear hk); (try clear hi); (try clear ho0)))
       go_ret2
       exact ⟨_, by first | rfl | (simp [errW_none, errW_some] <;> rfl) | (simp [*, errW_none, errW_some] <;> rfl), by first | exact Kd.R_nil _ _ _ _ _ | exact Kd.N_nil _ _ _ _ _ | exact Kd.V_nil _ _ _ _ _ | exact Kd.Q_nil _ _ _ _ _ | exact Kd.S_nil _ _ _ _ _, bb_ HB.out⟩
     ·rw [if_neg c6] at H
      have c6b0 : decide (x6_1 < (a0.size : Int)) = false := decide_eq_false c6
      clear c6
      simp only [Option.some.injEq, Prod.mk.injEq] at H
      obtain ⟨rfl, rfl⟩ := H
      go_wp2
      go_ret2
      exact ⟨_, by first | rfl | (simp [errW_none, errW_some] <;> rfl) | (simp [*, errW_none, errW_some] <;> rfl), rr_ HO_5.out, bb_ HB.out⟩
  ·replace c4 := Bool.eq_false_iff.mpr c4
   subst c4
   rw [if_neg (show ¬ (false = true) by decide)] at H
   have H1 := H
   clear H
   have H := H1
   clear H1
   simp only [Option.some.injEq, Prod.mk.injEq] at H
   obtain ⟨rfl, rfl⟩ := H
   go_enter Try.func35, Try.ntmps35
   go_wp2_with (first | ((with_reducible refine gate_callee (f := 41) rfl ?_); refine goesL_ (some 13) rfl rfl Try.func41 (by kernel_rfl) rfl #[.string a0] rfl ar_ ?_; (with_reducible refine (topiaryref11_Valid.calls k a0 false _ A3.out).mono ?_); rintro e w20 ⟨rfl, hb⟩; refine ⟨_, rfl, ?_⟩; have n0_ := Aside0.mk (below_step (bb_ HB.out) hb); clear HB; have HB := n0_; clear n0_; (try clear hb); (try clear hb2); (try clear hk); (try clear hi)))
   go_ret2
   exact ⟨_, by first | rfl | (simp [errW_none, errW_some] <;> rfl) | (simp [*, errW_none, errW_some] <;> rfl), by first | exact Kd.R_nil _ _ _ _ _ | exact Kd.N_nil _ _ _ _ _ | exact Kd.V_nil _ _ _ _ _ | exact Kd.Q_nil _ _ _ _ _ | exact Kd.S_nil _ _ _ _ _, bb_ HB.out⟩
end Go.Proofs.Ytoanmoddppmffaa.T
