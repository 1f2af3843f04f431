/- The reference: pred. -/
import Derived.Test.YtoanmoddppmffaaGreatDoorXRf
import Derived.Test.YtoanmoddppmffaaGreatDoorXQm
namespace Go.Proofs.YtoanmoddppmffaaGreatDoor.T
open Go.RowKit Go.Shelf Go.Proofs.YtoanmoddppmffaaGreatDoorW.PrintWords
set_option linter.unusedVariables false
set_option linter.unusedSimpArgs false
def TokW (l : List Tok) : Prop := ∀ t ∈ l, Dg t ∧ 1 ≤ t.size ∧ t.size ≤ 1000
theorem pred_cases {l : List Tok} {j k : Nat} {inner : Int} {o : Option (Pred × List Tok)} (hr : predG false (k + 1) inner (l.drop j) = some o) :
    (∃ t, l[j]? = some t ∧ 0 < digL t.data.toList ∧ o = (numG t).map fun n => (⟨1, n, [], []⟩, l.drop (j + 1))) ∨ ((∀ t, l[j]? = some t → digL t.data.toList = 0) ∧ choiceG false k inner (l.drop j) = some o) := by
  have e := head_drop l j
  have ea := adv_drop l j
  simp only [predG] at hr
  cases hd : l.drop j with
  | nil =>
    rw [hd] at hr e
    exact .inr ⟨fun t h => by rw [← e] at h; simp at h, hr⟩
  | cons t ts =>
    rw [hd] at hr e ea
    have ht : l[j]? = some t := by rw [← e]; rfl
    simp only at hr
    by_cases h0 : 0 < digL t.data.toList
    · rw [if_pos h0] at hr
      refine .inl ⟨t, ht, h0, ?_⟩
      rcases Opt_some hr with ⟨h1, rfl⟩ | ⟨n, h1, h2⟩
      · rw [h1]; rfl
      · rw [ea] at h2
        rw [h1]
        exact (Option.some.inj h2).symm
    · rw [if_neg h0] at hr
      exact .inr ⟨fun u h => by rw [ht] at h; obtain rfl := Option.some.inj h; omega, hr⟩
theorem dig_first {t : ByteArray} (h : 0 < t.size) : (0 < digL t.data.toList ↔ isDg t[0] = true) := by
  have hd := drop_at t 0 h
  rw [List.drop_zero] at hd
  rw [hd, digL]
  cases isDg t[0] <;> simp
theorem dig_all {t : ByteArray} (h : digL t.data.toList = t.size) {k : Nat} (hk : k < t.size) : isDg t[k] = true := by
  have key : ∀ (l : List UInt8) (k : Nat) (hk : k < l.length), digL l = l.length → isDg l[k] = true := by
    intro l
    induction l with
    | nil => intro k hk; simp at hk
    | cons c l ih =>
      intro k hk hd
      simp only [digL] at hd
      split at hd
      · rename_i hc
        cases k with
        | zero => exact hc
        | succ k => exact ih k (by simpa using hk) (by simpa using hd)
      · simp at hd
  have hl : t.data.toList.length = t.size := by rw [Array.length_toList]; rfl
  have := key t.data.toList k (by omega) (by omega)
  rw [Array.getElem_toList] at this
  exact this
set_option maxHeartbeats 4000000 in
set_option maxRecDepth 100000 in
theorem rpred_num (l : List Tok) (A : Option Addr) (c j : Nat) (inner : Int) (t : Tok) (w : World) (hl : l.length ≤ 1000) (hT : TokR w A l) (ht : l[j]? = some t) (hz : 1 ≤ t.size ∧ t.size ≤ 1000) (hd : digL t.data.toList = t.size) :
    Calls Tryz.prog 68 #[.slice A l.length c, .int .i64 (j : Int), .int .i64 inner] w (RPredPost l j ((numG t).map fun n => (⟨1, n, [], []⟩, l.drop (j + 1))) w) := by
  have hb : Below w.heap.size w (w.alloc (.cells #[.int .i64 0, .int .i64 0, .slice none 0 0, .slice none 0 0] 41)) := below_alloc (Below.refl _ _) _
  generalize hw1 : w.alloc (.cells #[.int .i64 0, .int .i64 0, .slice none 0 0, .slice none 0 0] 41) = w1 at hb
  have hr1 : w1.heap[w.heap.size]? = some (.cells #[.int .i64 0, .int .i64 0, .slice none 0 0, .slice none 0 0] 41 (0, 0)) := by rw [← hw1]; exact blk_new w _
  have hat := at_lit (A := A) (c := c) (hT.below hb) ht
  have HJ := Aside0.mk (tok_lt ht)
  have hj1 : (j : Int) ≤ 1000 := by have := HJ.out; omega
  have hj0 : (0 : Int) ≤ (j : Int) := by omega
  have hz1 : (0 : Int) < (t.size : Int) := by omega
  have hne : (t.toList == []) = false := by
    refine (nonempty_list (s := t) ?_).2
    rintro rfl
    exact absurd hz.1 (by decide)
  have hz0 : 0 < t.size := hz.1
  have HF := Aside0.mk (dig_all hd hz0)
  have hf1 := ((dg_iff t[0]).1 HF.out).1
  have hf2 := ((dg_iff t[0]).1 HF.out).2
  have HD := Aside0.mk hd
  have HB := Aside0.mk hb
  have HR1 := Aside0.mk hr1
  have HZ := Aside0.mk hz
  have re0 : w1.cell? ⟨w.heap.size, 0, none⟩ = some (.int .i64 0) := (blk_cell hr1 0).trans rfl
  have re1 : w1.cell? ⟨w.heap.size, 1, none⟩ = some (.int .i64 0) := (blk_cell hr1 1).trans rfl
  have re2 : w1.cell? ⟨w.heap.size, 2, none⟩ = some (.slice none 0 0) := (blk_cell hr1 2).trans rfl
  have re3 : w1.cell? ⟨w.heap.size, 3, none⟩ = some (.slice none 0 0) := (blk_cell hr1 3).trans rfl
  have rf0 := blk_frozen hr1 0
  have rf1 := blk_frozen hr1 1
  have rf2 := blk_frozen hr1 2
  have rf3 := blk_frozen hr1 3
  have HH : Aside0 (t.data.toList.head? = some t[0]) := ⟨by
    have h1 := drop_at t 0 hz0
    rw [List.drop_zero] at h1
    rw [h1]; rfl⟩
  clear hT ht hb hr1 hz hd
  go_enter Tryz.func68, Tryz.ntmps68
  go_wp2_with fail
  go_at_call 32
  refine hat.mono ?_
  rintro e w2 ⟨rfl, rfl⟩
  clear hat
  go_wp2
  go_loop [9, 10] (fun n k => ∃ (n' k' : Nat), n = .int .i64 n' ∧ k = .int .i64 k' ∧ k' ≤ t.size ∧ n' ≤ 99999999 ∧ Aside0 (valL 0 t.data.toList = valL n' (t.data.toList.drop k'))) (fun _ k => t.size - (intOf k).toNat)
  case atStart => exact ⟨0, 0, rfl, rfl, Nat.zero_le _, by omega, ⟨by rw [List.drop_zero]⟩⟩
  case round =>
    obtain ⟨n, k, rfl, rfl, hk, hn, H⟩ := hrel
    have hk0 : (0 : Int) ≤ (k : Int) := by omega
    have hn0 : (0 : Int) ≤ (n : Int) := by omega
    have hn1 : (n : Int) ≤ 99999999 := by omega
    by_cases hgo : k < t.size ∧ n ≤ 9999999
    · obtain ⟨hlt, hn9⟩ := hgo
      have hk1 : (k : Int) < (t.size : Int) := by omega
      have hk2 : (k : Int) ≤ 1000 := by have := HZ.out; omega
      have hn9' : (n : Int) ≤ 9999999 := by omega
      have HDk := Aside0.mk (dig_all HD.out hlt)
      have hd1 := ((dg_iff t[k]).1 HDk.out).1
      have hd2 := ((dg_iff t[k]).1 HDk.out).2
      have HX := Aside0.mk (drop_at t k hlt)
      have HE : Aside0 ((n : Int) * 10 + ((t[k].toNat : Int) - 48) = ((n * 10 + (t[k].toNat - 48) : Nat) : Int)) := ⟨by omega⟩
      have HV : Aside0 (valL 0 t.data.toList = valL (n * 10 + (t[k].toNat - 48)) (t.data.toList.drop (k + 1))) := ⟨by rw [H.out, HX.out]; rfl⟩
      go_wp2
      go_round
      case rel => exact ⟨n * 10 + (t[k].toNat - 48), k + 1, congrArg (Value.int IntKind.i64) HE.out, by go_num, by omega, by omega, HV⟩
      case measure => simp [intOf]; omega
    · have HN : Aside0 (9999999 < n ↔ 9999999 < valL 0 t.data.toList) := ⟨by
        rw [H.out]
        constructor
        · intro h; exact Nat.lt_of_lt_of_le h (valL_ge _ _)
        · intro h
          by_cases hlt : k < t.size
          · have : ¬ n ≤ 9999999 := fun h => hgo ⟨hlt, h⟩
            omega
          · rw [drop_all _ _ (by omega)] at h
            exact h⟩
      have HVn : Aside0 (¬ 9999999 < n → valL 0 t.data.toList = n) := ⟨fun h => by
        have : ¬ k < t.size := fun h' => hgo ⟨h', by omega⟩
        rw [H.out, drop_all _ _ (by omega)]
        rfl⟩
      have e48 : ((t[0]'hz0).toNat : Int) = 48 ↔ t[0]'hz0 = 48 := by
        rw [← UInt8.toNat_inj]
        have : (48 : UInt8).toNat = 48 := rfl
        omega
      have HNO : Aside0 ((((t[0]'hz0).toNat : Int) = 48 ∨ 9999999 < n) → numG t = none) := ⟨fun h => by
        unfold numG
        rw [HH.out]
        by_cases h1 : t[0]'hz0 = 48
        · rw [h1]; rfl
        · rw [if_neg (by simpa using h1), if_pos (HN.out.1 (h.resolve_left (fun e => h1 (e48.1 e))))]⟩
      have HYES : Aside0 ((¬ ((t[0]'hz0).toNat : Int) = 48 ∧ ¬ 9999999 < n) → numG t = some (n : Int)) := ⟨fun h => by
        unfold numG
        rw [HH.out, if_neg (by have := fun e => h.1 (e48.2 e); simpa using this), HVn.out h.2, if_neg (by omega)]⟩
      clear e48
      by_cases hks : k < t.size
      · have hks' : (k : Int) < (t.size : Int) := by omega
        have hbig : 9999999 < (n : Int) := by omega
        by_cases h48 : ((t[0]'hz0).toNat : Int) = 48
        · go_wp2
          have hw9 := put4_at HR1.out (.int .i64 (⟨0, 0, [], []⟩ : Pred).kind) (.int .i64 (⟨0, 0, [], []⟩ : Pred).n) (.slice none (⟨0, 0, [], []⟩ : Pred).path.length 0) (.slice none (⟨0, 0, [], []⟩ : Pred).args.length 0)
          have hgot := rpred_done (StepsR.nil _ _) (PredsR.nil _ _) HB.out (show RAt l j ((numG t).map fun n => ((⟨1, n, [], []⟩ : Pred), l.drop (j + 1))) (⟨0, 0, [], []⟩ : Pred) (-1) by rw [HNO.out (by omega)]; exact rfl)
          change bodyPost _ _ _ _ _ (put4 w1 w.heap.size (.int .i64 (⟨0, 0, [], []⟩ : Pred).kind) (.int .i64 (⟨0, 0, [], []⟩ : Pred).n) (.slice none (⟨0, 0, [], []⟩ : Pred).path.length 0) (.slice none (⟨0, 0, [], []⟩ : Pred).args.length 0))
          generalize put4 w1 w.heap.size (.int .i64 (⟨0, 0, [], []⟩ : Pred).kind) (.int .i64 (⟨0, 0, [], []⟩ : Pred).n) (.slice none (⟨0, 0, [], []⟩ : Pred).path.length 0) (.slice none (⟨0, 0, [], []⟩ : Pred).args.length 0) = w9 at hw9 hgot ⊢
          have q0 : w9.cell? ⟨w.heap.size, 0, none⟩ = some (.int .i64 (⟨0, 0, [], []⟩ : Pred).kind) := (blk_cell hw9 0).trans rfl
          have q1 : w9.cell? ⟨w.heap.size, 1, none⟩ = some (.int .i64 (⟨0, 0, [], []⟩ : Pred).n) := (blk_cell hw9 1).trans rfl
          have q2 : w9.cell? ⟨w.heap.size, 2, none⟩ = some (.slice none (⟨0, 0, [], []⟩ : Pred).path.length 0) := (blk_cell hw9 2).trans rfl
          have q3 : w9.cell? ⟨w.heap.size, 3, none⟩ = some (.slice none (⟨0, 0, [], []⟩ : Pred).args.length 0) := (blk_cell hw9 3).trans rfl
          refine bodyPost_ret (v := .tuple #[.agg #[.int .i64 (⟨0, 0, [], []⟩ : Pred).kind, .int .i64 (⟨0, 0, [], []⟩ : Pred).n, .slice none (⟨0, 0, [], []⟩ : Pred).path.length 0, .slice none (⟨0, 0, [], []⟩ : Pred).args.length 0], .int .i64 (-1:Int)]) (by simp [results, Tryz.results68, go_sem, q0, q1, q2, q3]) rfl ?_
          exact ⟨(⟨0, 0, [], []⟩ : Pred), none, 0, none, 0, (-1:Int), rfl, hgot⟩
        · go_wp2
          have hw9 := put4_at HR1.out (.int .i64 (⟨0, 0, [], []⟩ : Pred).kind) (.int .i64 (⟨0, 0, [], []⟩ : Pred).n) (.slice none (⟨0, 0, [], []⟩ : Pred).path.length 0) (.slice none (⟨0, 0, [], []⟩ : Pred).args.length 0)
          have hgot := rpred_done (StepsR.nil _ _) (PredsR.nil _ _) HB.out (show RAt l j ((numG t).map fun n => ((⟨1, n, [], []⟩ : Pred), l.drop (j + 1))) (⟨0, 0, [], []⟩ : Pred) (-1) by rw [HNO.out (by omega)]; exact rfl)
          change bodyPost _ _ _ _ _ (put4 w1 w.heap.size (.int .i64 (⟨0, 0, [], []⟩ : Pred).kind) (.int .i64 (⟨0, 0, [], []⟩ : Pred).n) (.slice none (⟨0, 0, [], []⟩ : Pred).path.length 0) (.slice none (⟨0, 0, [], []⟩ : Pred).args.length 0))
          generalize put4 w1 w.heap.size (.int .i64 (⟨0, 0, [], []⟩ : Pred).kind) (.int .i64 (⟨0, 0, [], []⟩ : Pred).n) (.slice none (⟨0, 0, [], []⟩ : Pred).path.length 0) (.slice none (⟨0, 0, [], []⟩ : Pred).args.length 0) = w9 at hw9 hgot ⊢
          have q0 : w9.cell? ⟨w.heap.size, 0, none⟩ = some (.int .i64 (⟨0, 0, [], []⟩ : Pred).kind) := (blk_cell hw9 0).trans rfl
          have q1 : w9.cell? ⟨w.heap.size, 1, none⟩ = some (.int .i64 (⟨0, 0, [], []⟩ : Pred).n) := (blk_cell hw9 1).trans rfl
          have q2 : w9.cell? ⟨w.heap.size, 2, none⟩ = some (.slice none (⟨0, 0, [], []⟩ : Pred).path.length 0) := (blk_cell hw9 2).trans rfl
          have q3 : w9.cell? ⟨w.heap.size, 3, none⟩ = some (.slice none (⟨0, 0, [], []⟩ : Pred).args.length 0) := (blk_cell hw9 3).trans rfl
          refine bodyPost_ret (v := .tuple #[.agg #[.int .i64 (⟨0, 0, [], []⟩ : Pred).kind, .int .i64 (⟨0, 0, [], []⟩ : Pred).n, .slice none (⟨0, 0, [], []⟩ : Pred).path.length 0, .slice none (⟨0, 0, [], []⟩ : Pred).args.length 0], .int .i64 (-1:Int)]) (by simp [results, Tryz.results68, go_sem, q0, q1, q2, q3]) rfl ?_
          exact ⟨(⟨0, 0, [], []⟩ : Pred), none, 0, none, 0, (-1:Int), rfl, hgot⟩
      · have hks' : ¬ (k : Int) < (t.size : Int) := by omega
        by_cases h48 : ((t[0]'hz0).toNat : Int) = 48
        · go_wp2
          have hw9 := put4_at HR1.out (.int .i64 (⟨0, 0, [], []⟩ : Pred).kind) (.int .i64 (⟨0, 0, [], []⟩ : Pred).n) (.slice none (⟨0, 0, [], []⟩ : Pred).path.length 0) (.slice none (⟨0, 0, [], []⟩ : Pred).args.length 0)
          have hgot := rpred_done (StepsR.nil _ _) (PredsR.nil _ _) HB.out (show RAt l j ((numG t).map fun n => ((⟨1, n, [], []⟩ : Pred), l.drop (j + 1))) (⟨0, 0, [], []⟩ : Pred) (-1) by rw [HNO.out (by omega)]; exact rfl)
          change bodyPost _ _ _ _ _ (put4 w1 w.heap.size (.int .i64 (⟨0, 0, [], []⟩ : Pred).kind) (.int .i64 (⟨0, 0, [], []⟩ : Pred).n) (.slice none (⟨0, 0, [], []⟩ : Pred).path.length 0) (.slice none (⟨0, 0, [], []⟩ : Pred).args.length 0))
          generalize put4 w1 w.heap.size (.int .i64 (⟨0, 0, [], []⟩ : Pred).kind) (.int .i64 (⟨0, 0, [], []⟩ : Pred).n) (.slice none (⟨0, 0, [], []⟩ : Pred).path.length 0) (.slice none (⟨0, 0, [], []⟩ : Pred).args.length 0) = w9 at hw9 hgot ⊢
          have q0 : w9.cell? ⟨w.heap.size, 0, none⟩ = some (.int .i64 (⟨0, 0, [], []⟩ : Pred).kind) := (blk_cell hw9 0).trans rfl
          have q1 : w9.cell? ⟨w.heap.size, 1, none⟩ = some (.int .i64 (⟨0, 0, [], []⟩ : Pred).n) := (blk_cell hw9 1).trans rfl
          have q2 : w9.cell? ⟨w.heap.size, 2, none⟩ = some (.slice none (⟨0, 0, [], []⟩ : Pred).path.length 0) := (blk_cell hw9 2).trans rfl
          have q3 : w9.cell? ⟨w.heap.size, 3, none⟩ = some (.slice none (⟨0, 0, [], []⟩ : Pred).args.length 0) := (blk_cell hw9 3).trans rfl
          refine bodyPost_ret (v := .tuple #[.agg #[.int .i64 (⟨0, 0, [], []⟩ : Pred).kind, .int .i64 (⟨0, 0, [], []⟩ : Pred).n, .slice none (⟨0, 0, [], []⟩ : Pred).path.length 0, .slice none (⟨0, 0, [], []⟩ : Pred).args.length 0], .int .i64 (-1:Int)]) (by simp [results, Tryz.results68, go_sem, q0, q1, q2, q3]) rfl ?_
          exact ⟨(⟨0, 0, [], []⟩ : Pred), none, 0, none, 0, (-1:Int), rfl, hgot⟩
        · by_cases hbig : 9999999 < (n : Int)
          · go_wp2
            have hw9 := put4_at HR1.out (.int .i64 (⟨0, 0, [], []⟩ : Pred).kind) (.int .i64 (⟨0, 0, [], []⟩ : Pred).n) (.slice none (⟨0, 0, [], []⟩ : Pred).path.length 0) (.slice none (⟨0, 0, [], []⟩ : Pred).args.length 0)
            have hgot := rpred_done (StepsR.nil _ _) (PredsR.nil _ _) HB.out (show RAt l j ((numG t).map fun n => ((⟨1, n, [], []⟩ : Pred), l.drop (j + 1))) (⟨0, 0, [], []⟩ : Pred) (-1) by rw [HNO.out (by omega)]; exact rfl)
            change bodyPost _ _ _ _ _ (put4 w1 w.heap.size (.int .i64 (⟨0, 0, [], []⟩ : Pred).kind) (.int .i64 (⟨0, 0, [], []⟩ : Pred).n) (.slice none (⟨0, 0, [], []⟩ : Pred).path.length 0) (.slice none (⟨0, 0, [], []⟩ : Pred).args.length 0))
            generalize put4 w1 w.heap.size (.int .i64 (⟨0, 0, [], []⟩ : Pred).kind) (.int .i64 (⟨0, 0, [], []⟩ : Pred).n) (.slice none (⟨0, 0, [], []⟩ : Pred).path.length 0) (.slice none (⟨0, 0, [], []⟩ : Pred).args.length 0) = w9 at hw9 hgot ⊢
            have q0 : w9.cell? ⟨w.heap.size, 0, none⟩ = some (.int .i64 (⟨0, 0, [], []⟩ : Pred).kind) := (blk_cell hw9 0).trans rfl
            have q1 : w9.cell? ⟨w.heap.size, 1, none⟩ = some (.int .i64 (⟨0, 0, [], []⟩ : Pred).n) := (blk_cell hw9 1).trans rfl
            have q2 : w9.cell? ⟨w.heap.size, 2, none⟩ = some (.slice none (⟨0, 0, [], []⟩ : Pred).path.length 0) := (blk_cell hw9 2).trans rfl
            have q3 : w9.cell? ⟨w.heap.size, 3, none⟩ = some (.slice none (⟨0, 0, [], []⟩ : Pred).args.length 0) := (blk_cell hw9 3).trans rfl
            refine bodyPost_ret (v := .tuple #[.agg #[.int .i64 (⟨0, 0, [], []⟩ : Pred).kind, .int .i64 (⟨0, 0, [], []⟩ : Pred).n, .slice none (⟨0, 0, [], []⟩ : Pred).path.length 0, .slice none (⟨0, 0, [], []⟩ : Pred).args.length 0], .int .i64 (-1:Int)]) (by simp [results, Tryz.results68, go_sem, q0, q1, q2, q3]) rfl ?_
            exact ⟨(⟨0, 0, [], []⟩ : Pred), none, 0, none, 0, (-1:Int), rfl, hgot⟩
          · go_wp2
            have hw9 := put4_at HR1.out (.int .i64 (⟨1, n, [], []⟩ : Pred).kind) (.int .i64 (⟨1, n, [], []⟩ : Pred).n) (.slice none (⟨1, n, [], []⟩ : Pred).path.length 0) (.slice none (⟨1, n, [], []⟩ : Pred).args.length 0)
            have hgot := rpred_done (StepsR.nil _ _) (PredsR.nil _ _) HB.out (show RAt l j ((numG t).map fun n => ((⟨1, n, [], []⟩ : Pred), l.drop (j + 1))) (⟨1, n, [], []⟩ : Pred) ((j:Int)+1) by rw [HYES.out (by omega)]; exact ⟨rfl, j + 1, by omega, HJ.out, by simp, rfl⟩)
            change bodyPost _ _ _ _ _ (put4 w1 w.heap.size (.int .i64 (⟨1, n, [], []⟩ : Pred).kind) (.int .i64 (⟨1, n, [], []⟩ : Pred).n) (.slice none (⟨1, n, [], []⟩ : Pred).path.length 0) (.slice none (⟨1, n, [], []⟩ : Pred).args.length 0))
            generalize put4 w1 w.heap.size (.int .i64 (⟨1, n, [], []⟩ : Pred).kind) (.int .i64 (⟨1, n, [], []⟩ : Pred).n) (.slice none (⟨1, n, [], []⟩ : Pred).path.length 0) (.slice none (⟨1, n, [], []⟩ : Pred).args.length 0) = w9 at hw9 hgot ⊢
            have q0 : w9.cell? ⟨w.heap.size, 0, none⟩ = some (.int .i64 (⟨1, n, [], []⟩ : Pred).kind) := (blk_cell hw9 0).trans rfl
            have q1 : w9.cell? ⟨w.heap.size, 1, none⟩ = some (.int .i64 (⟨1, n, [], []⟩ : Pred).n) := (blk_cell hw9 1).trans rfl
            have q2 : w9.cell? ⟨w.heap.size, 2, none⟩ = some (.slice none (⟨1, n, [], []⟩ : Pred).path.length 0) := (blk_cell hw9 2).trans rfl
            have q3 : w9.cell? ⟨w.heap.size, 3, none⟩ = some (.slice none (⟨1, n, [], []⟩ : Pred).args.length 0) := (blk_cell hw9 3).trans rfl
            refine bodyPost_ret (v := .tuple #[.agg #[.int .i64 (⟨1, n, [], []⟩ : Pred).kind, .int .i64 (⟨1, n, [], []⟩ : Pred).n, .slice none (⟨1, n, [], []⟩ : Pred).path.length 0, .slice none (⟨1, n, [], []⟩ : Pred).args.length 0], .int .i64 ((j:Int)+1)]) (by simp [results, Tryz.results68, go_sem, q0, q1, q2, q3]) rfl ?_
            exact ⟨(⟨1, n, [], []⟩ : Pred), none, 0, none, 0, ((j:Int)+1), rfl, hgot⟩
set_option maxHeartbeats 4000000 in
set_option maxRecDepth 100000 in
theorem rpred_choice (l : List Tok) (A : Option Addr) (c j : Nat) (inner : Int) (o : Option (Pred × List Tok)) (w : World) (hl : l.length ≤ 1000) (hT : TokR w A l) (ht : ∀ t, l[j]? = some t → digL t.data.toList = 0)
    (hch : ∀ w1, Below w.heap.size w w1 → Calls Tryz.prog 78 #[.slice A l.length c, .int .i64 (j : Int), .int .i64 inner] w1 (RPredPost l j o w1)) :
    Calls Tryz.prog 68 #[.slice A l.length c, .int .i64 (j : Int), .int .i64 inner] w (RPredPost l j o w) := by
  have hb : Below w.heap.size w (w.alloc (.cells #[.int .i64 0, .int .i64 0, .slice none 0 0, .slice none 0 0] 41)) := below_alloc (Below.refl _ _) _
  generalize hw1 : w.alloc (.cells #[.int .i64 0, .int .i64 0, .slice none 0 0, .slice none 0 0] 41) = w1 at hb
  have hr1 : w1.heap[w.heap.size]? = some (.cells #[.int .i64 0, .int .i64 0, .slice none 0 0, .slice none 0 0] 41 (0, 0)) := by rw [← hw1]; exact blk_new w _
  have hat := at_any l A c j w1 (hT.below hb)
  have hch1 := hch w1 hb
  have HB := Aside0.mk hb
  have HR1 := Aside0.mk hr1
  have HS : Aside0 (0 < (atL l j).size → digL (atL l j).data.toList = 0) := ⟨fun h => by
    unfold atL at h ⊢
    cases he : l[j]? with
    | none => rfl
    | some t => exact ht t he⟩
  generalize atL l j = s at hat HS
  clear hT ht hb hr1 hch
  go_enter Tryz.func68, Tryz.ntmps68
  go_wp2_with fail
  go_at_call 32
  refine hat.mono ?_
  rintro e w2 ⟨rfl, rfl⟩
  clear hat
  by_cases h0 : s = ⟨#[]⟩
  · subst h0
    go_wp2_with fail
    go_at_call 78
    refine hch1.mono ?_
    rintro e w3 ⟨x, A1, c1, B1, d1, kk, rfl, hx1, hx2, hx3, hx4⟩
    have hr3 := blk_below HR1.out hx3
    have re0 : w3.cell? ⟨w.heap.size, 0, none⟩ = some (.int .i64 0) := (blk_cell hr3 0).trans rfl
    have re1 : w3.cell? ⟨w.heap.size, 1, none⟩ = some (.int .i64 0) := (blk_cell hr3 1).trans rfl
    have re2 : w3.cell? ⟨w.heap.size, 2, none⟩ = some (.slice none 0 0) := (blk_cell hr3 2).trans rfl
    have re3 : w3.cell? ⟨w.heap.size, 3, none⟩ = some (.slice none 0 0) := (blk_cell hr3 3).trans rfl
    have rf0 := blk_frozen hr3 0
    have rf1 := blk_frozen hr3 1
    have rf2 := blk_frozen hr3 2
    have rf3 := blk_frozen hr3 3
    have HX := Aside0.mk (And.intro hx1 (And.intro hx2 (And.intro hx3 hx4)))
    have HR3 := Aside0.mk hr3
    have HLT : Aside0 (w.heap.size < w1.heap.size) := ⟨blk_lt HR1.out⟩
    clear hx1 hx2 hx3 hx4 hr3
    go_wp2
    obtain ⟨hx1, hx2, hx3, hx4⟩ := HX.out
    have hlt := HLT.out
    have hw9 := put4_at HR3.out (.int .i64 x.kind) (.int .i64 x.n) (.slice A1 x.path.length c1) (.slice B1 x.args.length d1)
    have hgot := rpred_done (hx1.imp_ (fun _ _ => rfl) (fun k hk => by omega)) (hx2.imp_ (fun _ _ => rfl) (fun k hk => by omega)) (below_step HB.out hx3) hx4
    change bodyPost _ _ _ _ _ (put4 w3 w.heap.size (.int .i64 x.kind) (.int .i64 x.n) (.slice A1 x.path.length c1) (.slice B1 x.args.length d1))
    generalize put4 w3 w.heap.size (.int .i64 x.kind) (.int .i64 x.n) (.slice A1 x.path.length c1) (.slice B1 x.args.length d1) = w9 at hw9 hgot ⊢
    have q0 : w9.cell? ⟨w.heap.size, 0, none⟩ = some (.int .i64 x.kind) := (blk_cell hw9 0).trans rfl
    have q1 : w9.cell? ⟨w.heap.size, 1, none⟩ = some (.int .i64 x.n) := (blk_cell hw9 1).trans rfl
    have q2 : w9.cell? ⟨w.heap.size, 2, none⟩ = some (.slice A1 x.path.length c1) := (blk_cell hw9 2).trans rfl
    have q3 : w9.cell? ⟨w.heap.size, 3, none⟩ = some (.slice B1 x.args.length d1) := (blk_cell hw9 3).trans rfl
    refine bodyPost_ret (v := .tuple #[.agg #[.int .i64 x.kind, .int .i64 x.n, .slice A1 x.path.length c1, .slice B1 x.args.length d1], .int .i64 kk]) (by simp [results, Tryz.results68, go_sem, q0, q1, q2, q3]) rfl ?_
    exact ⟨x, A1, c1, B1, d1, kk, rfl, hgot⟩
  · have hne := (nonempty_list h0).2
    have hz0 : 0 < s.size := by
      rcases Nat.eq_zero_or_pos s.size with h | h
      · exact absurd (bs_ext (List.eq_nil_of_length_eq_zero (by rw [Array.length_toList]; exact h))) h0
      · exact h
    have hz1 : (0 : Int) < (s.size : Int) := by omega
    have hnd : ¬ isDg (s[0]'hz0) = true := fun h => by
      have := (dig_first hz0).2 h
      have := HS.out hz0
      omega
    have hnd' : ¬ (48 ≤ ((s[0]'hz0).toNat : Int) ∧ ((s[0]'hz0).toNat : Int) ≤ 57) := fun h => hnd ((dg_iff _).2 h)
    by_cases h1 : 48 ≤ ((s[0]'hz0).toNat : Int)
    · have h2 : ¬ ((s[0]'hz0).toNat : Int) ≤ 57 := fun h => hnd' ⟨h1, h⟩
      clear hnd hnd'
      go_wp2_with fail
      go_at_call 78
      refine hch1.mono ?_
      rintro e w3 ⟨x, A1, c1, B1, d1, kk, rfl, hx1, hx2, hx3, hx4⟩
      have hr3 := blk_below HR1.out hx3
      have re0 : w3.cell? ⟨w.heap.size, 0, none⟩ = some (.int .i64 0) := (blk_cell hr3 0).trans rfl
      have re1 : w3.cell? ⟨w.heap.size, 1, none⟩ = some (.int .i64 0) := (blk_cell hr3 1).trans rfl
      have re2 : w3.cell? ⟨w.heap.size, 2, none⟩ = some (.slice none 0 0) := (blk_cell hr3 2).trans rfl
      have re3 : w3.cell? ⟨w.heap.size, 3, none⟩ = some (.slice none 0 0) := (blk_cell hr3 3).trans rfl
      have rf0 := blk_frozen hr3 0
      have rf1 := blk_frozen hr3 1
      have rf2 := blk_frozen hr3 2
      have rf3 := blk_frozen hr3 3
      have HX := Aside0.mk (And.intro hx1 (And.intro hx2 (And.intro hx3 hx4)))
      have HR3 := Aside0.mk hr3
      have HLT : Aside0 (w.heap.size < w1.heap.size) := ⟨blk_lt HR1.out⟩
      clear hx1 hx2 hx3 hx4 hr3
      go_wp2
      obtain ⟨hx1, hx2, hx3, hx4⟩ := HX.out
      have hlt := HLT.out
      have hw9 := put4_at HR3.out (.int .i64 x.kind) (.int .i64 x.n) (.slice A1 x.path.length c1) (.slice B1 x.args.length d1)
      have hgot := rpred_done (hx1.imp_ (fun _ _ => rfl) (fun k hk => by omega)) (hx2.imp_ (fun _ _ => rfl) (fun k hk => by omega)) (below_step HB.out hx3) hx4
      change bodyPost _ _ _ _ _ (put4 w3 w.heap.size (.int .i64 x.kind) (.int .i64 x.n) (.slice A1 x.path.length c1) (.slice B1 x.args.length d1))
      generalize put4 w3 w.heap.size (.int .i64 x.kind) (.int .i64 x.n) (.slice A1 x.path.length c1) (.slice B1 x.args.length d1) = w9 at hw9 hgot ⊢
      have q0 : w9.cell? ⟨w.heap.size, 0, none⟩ = some (.int .i64 x.kind) := (blk_cell hw9 0).trans rfl
      have q1 : w9.cell? ⟨w.heap.size, 1, none⟩ = some (.int .i64 x.n) := (blk_cell hw9 1).trans rfl
      have q2 : w9.cell? ⟨w.heap.size, 2, none⟩ = some (.slice A1 x.path.length c1) := (blk_cell hw9 2).trans rfl
      have q3 : w9.cell? ⟨w.heap.size, 3, none⟩ = some (.slice B1 x.args.length d1) := (blk_cell hw9 3).trans rfl
      refine bodyPost_ret (v := .tuple #[.agg #[.int .i64 x.kind, .int .i64 x.n, .slice A1 x.path.length c1, .slice B1 x.args.length d1], .int .i64 kk]) (by simp [results, Tryz.results68, go_sem, q0, q1, q2, q3]) rfl ?_
      exact ⟨x, A1, c1, B1, d1, kk, rfl, hgot⟩
    · clear hnd hnd'
      go_wp2_with fail
      go_at_call 78
      refine hch1.mono ?_
      rintro e w3 ⟨x, A1, c1, B1, d1, kk, rfl, hx1, hx2, hx3, hx4⟩
      have hr3 := blk_below HR1.out hx3
      have re0 : w3.cell? ⟨w.heap.size, 0, none⟩ = some (.int .i64 0) := (blk_cell hr3 0).trans rfl
      have re1 : w3.cell? ⟨w.heap.size, 1, none⟩ = some (.int .i64 0) := (blk_cell hr3 1).trans rfl
      have re2 : w3.cell? ⟨w.heap.size, 2, none⟩ = some (.slice none 0 0) := (blk_cell hr3 2).trans rfl
      have re3 : w3.cell? ⟨w.heap.size, 3, none⟩ = some (.slice none 0 0) := (blk_cell hr3 3).trans rfl
      have rf0 := blk_frozen hr3 0
      have rf1 := blk_frozen hr3 1
      have rf2 := blk_frozen hr3 2
      have rf3 := blk_frozen hr3 3
      have HX := Aside0.mk (And.intro hx1 (And.intro hx2 (And.intro hx3 hx4)))
      have HR3 := Aside0.mk hr3
      have HLT : Aside0 (w.heap.size < w1.heap.size) := ⟨blk_lt HR1.out⟩
      clear hx1 hx2 hx3 hx4 hr3
      go_wp2
      obtain ⟨hx1, hx2, hx3, hx4⟩ := HX.out
      have hlt := HLT.out
      have hw9 := put4_at HR3.out (.int .i64 x.kind) (.int .i64 x.n) (.slice A1 x.path.length c1) (.slice B1 x.args.length d1)
      have hgot := rpred_done (hx1.imp_ (fun _ _ => rfl) (fun k hk => by omega)) (hx2.imp_ (fun _ _ => rfl) (fun k hk => by omega)) (below_step HB.out hx3) hx4
      change bodyPost _ _ _ _ _ (put4 w3 w.heap.size (.int .i64 x.kind) (.int .i64 x.n) (.slice A1 x.path.length c1) (.slice B1 x.args.length d1))
      generalize put4 w3 w.heap.size (.int .i64 x.kind) (.int .i64 x.n) (.slice A1 x.path.length c1) (.slice B1 x.args.length d1) = w9 at hw9 hgot ⊢
      have q0 : w9.cell? ⟨w.heap.size, 0, none⟩ = some (.int .i64 x.kind) := (blk_cell hw9 0).trans rfl
      have q1 : w9.cell? ⟨w.heap.size, 1, none⟩ = some (.int .i64 x.n) := (blk_cell hw9 1).trans rfl
      have q2 : w9.cell? ⟨w.heap.size, 2, none⟩ = some (.slice A1 x.path.length c1) := (blk_cell hw9 2).trans rfl
      have q3 : w9.cell? ⟨w.heap.size, 3, none⟩ = some (.slice B1 x.args.length d1) := (blk_cell hw9 3).trans rfl
      refine bodyPost_ret (v := .tuple #[.agg #[.int .i64 x.kind, .int .i64 x.n, .slice A1 x.path.length c1, .slice B1 x.args.length d1], .int .i64 kk]) (by simp [results, Tryz.results68, go_sem, q0, q1, q2, q3]) rfl ?_
      exact ⟨x, A1, c1, B1, d1, kk, rfl, hgot⟩
theorem rPred_any (l : List Tok) (A : Option Addr) (c j : Nat) (hl : l.length ≤ 1000) (hW : TokW l) (IH : RC 78 (choiceG false) l A c j) : RC 68 (predG false) l A c j := by
  intro k inner o w h0 hin hT hr
  obtain ⟨k, rfl⟩ : ∃ k', k = k' + 1 := by
    cases k with
    | zero => simp only [predG] at hr; cases hr
    | succ k => exact ⟨k, rfl⟩
  rcases pred_cases hr with ⟨t, ht, hd, rfl⟩ | ⟨ht, hch⟩
  · obtain ⟨h1, h2⟩ := hW t (List.mem_of_getElem? ht)
    exact rpred_num l A c j inner t w hl hT ht h2 (h1 hd)
  · exact rpred_choice l A c j inner o w hl hT ht (fun w1 hb => IH k inner o w1 h0 hin (hT.below hb) hch)
end Go.Proofs.YtoanmoddppmffaaGreatDoor.T
