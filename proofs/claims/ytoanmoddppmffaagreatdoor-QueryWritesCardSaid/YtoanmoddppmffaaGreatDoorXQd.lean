/- The reader goes on to the next sign. -/
import Derived.Test.YtoanmoddppmffaaGreatDoorXQc
import Derived.Test.YtoanmoddppmffaaGreatDoorXQo
import Derived.Lib.PathFns
import Derived.Deep.RegionWith
import Derived.Deep.RegionLaw
import Derived.Deep.RegionHeld3
import Derived.StillTailTactics
namespace Go.Proofs.YtoanmoddppmffaaGreatDoor.T
open Go.RowKit Go.Shelf Go.Proofs.YtoanmoddppmffaaGreatDoorW.PrintWords
set_option linter.unusedVariables false
set_option linter.unusedSimpArgs false
def NextPost (rest : List UInt8) (w : World) (g : Nat) (n : Int) (e : Ending) (w' : World) : Prop :=
  (∃ v, e = .returned v) ∧ w.grownBy w' (some g) ∧ StO (lexQ rest).2 w' g n (if lexQ rest = ([], true) then none else some (lexQ rest).1)
theorem next_end {rest : List UInt8} {w w' : World} {g : Nat} {n : Int} {v : Value} (h : rest.drop (skipL rest) = []) (hg : w.grownBy w' (some g)) (ho : w'.heap[g]? = some (rdO ⟨#[]⟩ ⟨#[]⟩ n false)) : NextPost rest w g n (.returned v) w' := by
  have e : lexQ rest = ([], false) := by rw [lexQ_eq, if_pos h]
  refine ⟨⟨_, rfl⟩, hg, ?_⟩
  rw [e]
  exact ⟨⟨#[]⟩, ⟨#[]⟩, ho, by decide, rfl, rfl⟩
theorem next_bad {rest : List UInt8} {w w' : World} {g : Nat} {n : Int} {v : Value} (h : rest.drop (skipL rest) ≠ []) (ht : tokL (rest.drop (skipL rest)) = none) (hg : w.grownBy w' (some g)) (ho : w'.heap[g]? = some (rdO ⟨#[]⟩ ⟨#[]⟩ n true)) : NextPost rest w g n (.returned v) w' := by
  have e : lexQ rest = ([], true) := by rw [lexQ_eq, if_neg h, ht]
  refine ⟨⟨_, rfl⟩, hg, ?_⟩
  rw [e, if_pos rfl]
  exact ho
theorem next_tok {rest : List UInt8} {w w' : World} {g : Nat} {n : Int} {v : Value} {t left : ByteArray} (h : rest.drop (skipL rest) ≠ []) (hl : left.data.toList = rest.drop (skipL rest)) (hz : left.size ≤ 400) (ht : tokL left.data.toList = some t) (hg : w.grownBy w' (some g)) (ho : w'.heap[g]? = some (rdO left t n false)) : NextPost rest w g n (.returned v) w' := by
  rw [hl] at ht
  have e : lexQ rest = (t :: (lexQ ((rest.drop (skipL rest)).drop t.size)).1, (lexQ ((rest.drop (skipL rest)).drop t.size)).2) := by rw [lexQ_eq, if_neg h, ht]
  refine ⟨⟨_, rfl⟩, hg, ?_⟩
  rw [e, if_neg (by simp)]
  have h1 := tokL_size ht
  exact ⟨left, t, ho, hz, rfl, h1.1, tokL_dg ht, _, by rw [hl]; exact h1.2.2, rfl⟩
set_option maxHeartbeats 1000000 in
set_option maxRecDepth 100000 in
theorem next_any (left sign : ByteArray) (n : Int) (g : Nat) (w : World) (hg : w.heap[g]? = some (rdO left sign n false)) (hs : sign.size ≤ left.size) (hl : left.size ≤ 400) :
    Calls Tryz.prog 19 #[.pointer (some ⟨g, 0, none⟩)] w (NextPost (left.data.toList.drop sign.size) w g n) := by
  unfold rdO at hg
  have h0 : (w.alloc (.cells #[.pointer (some ⟨g, 0, none⟩)] 49)).cell? ⟨g, 0, none⟩ = some (.string left) := (blk_cell (blk_alloc hg _) 0).trans rfl
  have h1 : (w.alloc (.cells #[.pointer (some ⟨g, 0, none⟩)] 49)).cell? ⟨g, 1, none⟩ = some (.string sign) := (blk_cell (blk_alloc hg _) 1).trans rfl
  have f0 : (w.alloc (.cells #[.pointer (some ⟨g, 0, none⟩)] 49)).frozen? ⟨g, 0, none⟩ = false := blk_frozen (blk_alloc hg _) 0
  have HG := Aside0.mk hg
  have hne : g ≠ w.heap.size := by have := blk_lt hg; omega
  have hne' : w.heap.size ≠ g := Ne.symm hne
  clear hg
  have hs' : (sign.size : Int) ≤ (left.size : Int) := by omega
  go_enter Tryz.func19, Tryz.ntmps19
  go_wp2
  go_region
  all_goals go_wp2
  generalize hw2 : ((w.alloc (.cells #[.pointer (some ⟨g, 0, none⟩)] 49)).setCell ⟨g, 0, none⟩ (.string (left.extract sign.size left.size))).drew = w2
  have hg2 : w2.heap[g]? = some (rdO (left.extract sign.size left.size) sign n false) := by rw [← hw2]; exact blk_put (blk_alloc HG.out _) 0 _ rfl
  have hr2 : w2.heap[w.heap.size]? = some (.cells #[.pointer (some ⟨g, 0, none⟩)] 49 (0, 0)) := by rw [← hw2]; exact blk_far (blk_new _ _) (by have := blk_lt HG.out; simp; omega) _
  have GB2 := Aside0.mk (show w.grownBy w2 (some g) by rw [← hw2]; exact gb_drew (gb_set (gb_alloc (gb_refl _ _) _)))
  have HL := Aside0.mk (show (left.extract sign.size left.size).data.toList = left.data.toList.drop sign.size from Lib.extract_to_end _ _)
  have HZ := Aside0.mk (show (left.extract sign.size left.size).size ≤ 400 by simp; omega)
  generalize left.extract sign.size left.size = left1 at *
  clear hw2 h0 h1 f0 HG hs'
  have r2 : w2.cell? ⟨w.heap.size, 0, none⟩ = some (.pointer (some ⟨g, 0, none⟩)) := (blk_cell hr2 0).trans rfl
  unfold rdO at hg2
  have h0 : w2.cell? ⟨g, 0, none⟩ = some (.string left1) := (blk_cell hg2 0).trans rfl
  have f0 := blk_frozen hg2 0
  have G2 := Aside0.mk hg2
  have R2 := Aside0.mk hr2
  have hz := HZ.out
  have hskp' := skip_any left1 w2.drew (by omega)
  clear hg2 hr2
  have hk0 : ((skipL left1.data.toList : Nat) : Int) ≤ (left1.size : Int) := by have := skipL_le left1.data.toList; rw [Array.length_toList] at this; exact_mod_cast this
  have HK := Aside0.mk (rfl : skipL left1.data.toList = skipL left1.data.toList)
  generalize hkk : skipL left1.data.toList = k at hskp' hk0 HK
  replace HK := Aside0.mk hkk
  clear hkk
  refine B_region (fun w' => w'.cell? ⟨w.heap.size, 0, none⟩ = some (.pointer (some ⟨g, 0, none⟩)) ∧ w'.cell? ⟨g, 0, none⟩ = some (.string left1)) 11 (by kernel_rfl) ⟨r2, h0⟩ (fun hS0 => ?_)
  refine B_take 9 (i := 0) (v := .pointer (some ⟨g, 0, none⟩)) rfl (by kernel_rfl) (fun _ _ _ h => h) (by rfl) (fun w' hSw => ?_) hS0 ?_
  · obtain ⟨hs1, hs2⟩ := hSw; go_simp
  try simp only [Act.put, List.setIfInBounds_toArray, List.set_cons_zero, List.set_cons_succ]
  refine B_take 9 (i := 1) (v := .pointer (some ⟨g, 0, none⟩)) rfl (by kernel_rfl) (fun _ _ _ h => h) (by rfl) (fun w' hSw => ?_) hS0 ?_
  · obtain ⟨hs1, hs2⟩ := hSw; go_simp
  try simp only [Act.put, List.setIfInBounds_toArray, List.set_cons_zero, List.set_cons_succ]
  refine B_take 9 (i := 2) (v := .pointer (some ⟨g, 0, none⟩)) rfl (by kernel_rfl) (fun _ _ _ h => h) (by rfl) (fun w' hSw => ?_) hS0 ?_
  · obtain ⟨hs1, hs2⟩ := hSw; go_simp
  try simp only [Act.put, List.setIfInBounds_toArray, List.set_cons_zero, List.set_cons_succ]
  refine B_take 9 (i := 3) (v := .pointer (some ⟨g, 0, none⟩)) rfl (by kernel_rfl) (fun _ _ _ h => h) (by rfl) (fun w' hSw => ?_) hS0 ?_
  · obtain ⟨hs1, hs2⟩ := hSw; go_simp
  try simp only [Act.put, List.setIfInBounds_toArray, List.set_cons_zero, List.set_cons_succ]
  refine B_take 9 (i := 4) (v := .string left1) rfl (by kernel_rfl) (fun _ _ _ h => h) (by rfl) (fun w' hSw => ?_) hS0 ?_
  · obtain ⟨hs1, hs2⟩ := hSw; go_simp
  try simp only [Act.put, List.setIfInBounds_toArray, List.set_cons_zero, List.set_cons_succ]
  refine B_take 9 (i := 5) (v := .pointer (some ⟨g, 0, none⟩)) rfl (by kernel_rfl) (fun _ _ _ h => h) (by rfl) (fun w' hSw => ?_) hS0 ?_
  · obtain ⟨hs1, hs2⟩ := hSw; go_simp
  try simp only [Act.put, List.setIfInBounds_toArray, List.set_cons_zero, List.set_cons_succ]
  refine B_take 9 (i := 6) (v := .pointer (some ⟨g, 0, none⟩)) rfl (by kernel_rfl) (fun _ _ _ h => h) (by rfl) (fun w' hSw => ?_) hS0 ?_
  · obtain ⟨hs1, hs2⟩ := hSw; go_simp
  try simp only [Act.put, List.setIfInBounds_toArray, List.set_cons_zero, List.set_cons_succ]
  refine B_take 9 (i := 7) (v := .pointer (some ⟨g, 0, none⟩)) rfl (by kernel_rfl) (fun _ _ _ h => h) (by rfl) (fun w' hSw => ?_) hS0 ?_
  · obtain ⟨hs1, hs2⟩ := hSw; go_simp
  try simp only [Act.put, List.setIfInBounds_toArray, List.set_cons_zero, List.set_cons_succ]
  refine B_take 9 (i := 8) (v := .string left1) rfl (by kernel_rfl) (fun _ _ _ h => h) (by rfl) (fun w' hSw => ?_) hS0 ?_
  · obtain ⟨hs1, hs2⟩ := hSw; go_simp
  try simp only [Act.put, List.setIfInBounds_toArray, List.set_cons_zero, List.set_cons_succ]
  refine B_one (i := 9) rfl (by kernel_rfl) (fun K' hK => ?_)
  go_simp
  go_at_call 34
  refine hskp'.mono ?_
  rintro e w3 ⟨rfl, hb⟩
  have q1 : w3.cell? ⟨w.heap.size, 0, none⟩ = some (.pointer (some ⟨g, 0, none⟩)) := pw_cell_below (w := w2.drew) hb r2
  have q0 : w3.cell? ⟨g, 0, none⟩ = some (.string left1) := pw_cell_below (w := w2.drew) hb h0
  refine hK.out _ _ ⟨q1, q0⟩ ?_
  clear hK K'
  try simp only [Act.put, List.setIfInBounds_toArray, List.set_cons_zero, List.set_cons_succ]
  refine B_one (i := 10) rfl (by kernel_rfl) (fun K' hK => ?_)
  go_simp
  refine hK.out _ _ ⟨q1, q0⟩ ?_
  clear hK K'
  try simp only [Act.put, List.setIfInBounds_toArray, List.set_cons_zero, List.set_cons_succ]
  refine B_tail 11 rfl (by decide) (by kernel_rfl) ?_
  have q2 : w3.cell? ⟨g, 1, none⟩ = some (.string sign) := pw_cell_below (w := w2.drew) hb ((blk_cell G2.out 1).trans rfl)
  have hg3 := blk_below (w := w2.drew) G2.out hb
  have qf0 := blk_frozen hg3 0
  have qf1 := blk_frozen hg3 1
  have G3 := Aside0.mk hg3
  have R3 := Aside0.mk (blk_below (w := w2.drew) R2.out hb)
  have GB3 := Aside0.mk (gb_below (gb_drew GB2.out) hb)
  have HL2 := Aside0.mk (Lib.extract_to_end left1 k)
  have HZ2 := Aside0.mk (show (left1.extract k left1.size).size ≤ 400 by simp; omega)
  clear hS0 hb GB2 R2 G2 hg3 h0 r2
  generalize left1.extract k left1.size = left2 at *
  by_cases he : left2 = ⟨#[]⟩
  · subst he
    simp only [List.drop_succ_cons, List.drop_zero]
    go_wp2
    refine bodyPost_ret (v := .tuple #[]) (by simp [results, Tryz.results19, go_sem]) rfl ?_
    exact next_end (by rw [← HL.out, HK.out, ← HL2.out]) (gb_set (gb_set GB3.out)) (blk_put (blk_put G3.out 0 (.string ⟨#[]⟩) rfl) 1 (.string ⟨#[]⟩) rfl)
  · have he1 := (nonempty_list he).1
    have he2 := (nonempty_list he).2
    simp only [List.drop_succ_cons, List.drop_zero]
    go_wp2
    generalize hw4 : (w3.setCell ⟨g, 0, none⟩ (.string left2)).setCell ⟨g, 1, none⟩ (.string ⟨#[]⟩) = w4
    have hg4 : w4.heap[g]? = some (rdO left2 ⟨#[]⟩ n false) := by rw [← hw4]; exact blk_put (blk_put G3.out 0 (.string left2) rfl) 1 (.string ⟨#[]⟩) rfl
    have hr4 : w4.heap[w.heap.size]? = some (.cells #[.pointer (some ⟨g, 0, none⟩)] 49 (0, 0)) := by rw [← hw4]; exact blk_far (blk_far R3.out hne' _) hne' _
    have GB4 := Aside0.mk (show w.grownBy w4 (some g) by rw [← hw4]; exact gb_set (gb_set GB3.out))
    clear hw4 q1 q0 q2 qf0 qf1 G3 R3 GB3
    unfold rdO at hg4
    have h4 : w4.cell? ⟨g, 0, none⟩ = some (.string left2) := (blk_cell hg4 0).trans rfl
    have r4 : w4.cell? ⟨w.heap.size, 0, none⟩ = some (.pointer (some ⟨g, 0, none⟩)) := (blk_cell hr4 0).trans rfl
    have G4 := Aside0.mk hg4
    have R4 := Aside0.mk hr4
    clear hg4 hr4
    have hz2 : left2.size ≤ 100000 := by have := HZ2.out; omega
    have hcN := nameEnd_any left2 w4.drew hz2
    have hcD := fun w => number_any left2 w hz2
    obtain ⟨nm, HN⟩ : ∃ nm, Aside0 (nameL left2.data.toList = nm) := ⟨_, ⟨rfl⟩⟩
    obtain ⟨dg, HD⟩ : ∃ dg, Aside0 (digL left2.data.toList = dg) := ⟨_, ⟨rfl⟩⟩
    rw [HN.out] at hcN
    rw [HD.out] at hcD
    go_region_held3 (fun w' => w'.cell? ⟨w.heap.size, 0, none⟩ = some (.pointer (some ⟨g, 0, none⟩)) ∧ w'.cell? ⟨g, 0, none⟩ = some (.string left2))
      (first | go_keep | exact ⟨pw_cell_below (w := w4.drew) hb5 r4, pw_cell_below (w := w4.drew) hb5 h4⟩ | exact ⟨pw_cell_below hb6 (pw_cell_below (w := w4.drew) hb5 r4), pw_cell_below hb6 (pw_cell_below (w := w4.drew) hb5 h4)⟩)
      (first | (go_at_call 39; refine hcN.mono ?_; rintro e w5 ⟨rfl, hb5⟩) | (go_at_call 40; refine (hcD _).mono ?_; rintro e w6 ⟨rfl, hb6⟩))
    have hg6 := blk_below (blk_below (w := w4.drew) G4.out hb5) hb6
    have hr6 := blk_below (blk_below (w := w4.drew) R4.out hb5) hb6
    have GB6 := Aside0.mk (gb_below (gb_below (gb_drew GB4.out) hb5) hb6)
    clear hb5 hb6 hcN hcD h4 r4 G4 R4 GB4 hskp'
    obtain ⟨m, hm1, hm2⟩ : ∃ m : Nat, max (nm : Int) (dg : Int) = (m : Int) ∧ m = max nm dg := ⟨max nm dg, by omega, rfl⟩
    rw [hm1]
    have HM := Aside0.mk hm2
    clear hm1 hm2
    have h6 : w6.cell? ⟨g, 0, none⟩ = some (.string left2) := (blk_cell hg6 0).trans rfl
    have h61 : w6.cell? ⟨g, 1, none⟩ = some (.string ⟨#[]⟩) := (blk_cell hg6 1).trans rfl
    have f61 := blk_frozen hg6 1
    have r6 : w6.cell? ⟨w.heap.size, 0, none⟩ = some (.pointer (some ⟨g, 0, none⟩)) := (blk_cell hr6 0).trans rfl
    have G6 := Aside0.mk hg6
    have R6 := Aside0.mk hr6
    have HNE := Aside0.mk (show (left.data.toList.drop sign.size).drop (skipL (left.data.toList.drop sign.size)) ≠ [] by rw [← HL.out, HK.out, ← HL2.out]; exact fun e => he (bs_ext e))
    have HLL := Aside0.mk (show left2.data.toList = (left.data.toList.drop sign.size).drop (skipL (left.data.toList.drop sign.size)) by rw [← HL.out, HK.out, ← HL2.out])
    clear hg6 hr6
    have hml : m ≤ left2.size := by
      have h1 := nameL_le left2.data.toList
      have h2 := digL_le left2.data.toList
      rw [Array.length_toList] at h1 h2
      have h3 : left2.data.size = left2.size := rfl
      rw [HM.out, ← HN.out, ← HD.out]; omega
    by_cases hpos : 0 < m
    · have hp : (0 : Int) < (m : Int) := by omega
      have hp0 : (0 : Int) ≤ (m : Int) := by omega
      have hp1 : (m : Int) ≤ (left2.size : Int) := by omega
      go_wp2
      go_region
      all_goals go_wp2
      all_goals go_end0
      have ht : tokL left2.data.toList = some (left2.extract 0 m) := by
        unfold tokL
        rw [HN.out, HD.out, ← HM.out, if_pos hpos]
        rw [Lib.extract_upto]
        rfl
      all_goals exact next_tok HNE.out HLL.out HZ2.out ht (by first | exact gb_drew (gb_set GB6.out) | exact gb_set GB6.out) (by first | exact blk_put G6.out 1 _ rfl)
    · obtain rfl : m = 0 := by omega
      generalize hw7 : w6.alloc (.cells #[.string ⟨#[47, 47]⟩, .string ⟨#[46, 46]⟩, .string ⟨#[47]⟩, .string ⟨#[46]⟩, .string ⟨#[42]⟩, .string ⟨#[64]⟩, .string ⟨#[91]⟩, .string ⟨#[93]⟩, .string ⟨#[40]⟩, .string ⟨#[41]⟩] 9) = w7
      have hb7 : w7.heap[w6.heap.size]? = some (.cells #[.string ⟨#[47, 47]⟩, .string ⟨#[46, 46]⟩, .string ⟨#[47]⟩, .string ⟨#[46]⟩, .string ⟨#[42]⟩, .string ⟨#[64]⟩, .string ⟨#[91]⟩, .string ⟨#[93]⟩, .string ⟨#[40]⟩, .string ⟨#[41]⟩] 9 (0, 0)) := by rw [← hw7]; exact blk_new _ _
      have hg7 : w7.heap[g]? = some (rdO left2 ⟨#[]⟩ n false) := by rw [← hw7]; exact blk_alloc G6.out _
      have hr7 : w7.heap[w.heap.size]? = some (.cells #[.pointer (some ⟨g, 0, none⟩)] 49 (0, 0)) := by rw [← hw7]; exact blk_alloc R6.out _
      have GB7 := Aside0.mk (show w.grownBy w7 (some g) by rw [← hw7]; exact gb_alloc GB6.out _)
      have hcon := fun o h => next1_any left2 ⟨#[]⟩ n false sigs w6.heap.size ⟨w.heap.size, 0, none⟩ g o w7 ((blk_cell hr7 0).trans rfl) hg7 (fun k h => by
        rw [blk_cell hb7 k]
        have hk : k < 10 := h
        match k, hk with
        | 0, _ | 1, _ | 2, _ | 3, _ | 4, _ | 5, _ | 6, _ | 7, _ | 8, _ | 9, _ => rfl) (by decide) h
      obtain ⟨o, HO⟩ : ∃ o, Aside0 (signL left2.data.toList = o) := ⟨_, ⟨rfl⟩⟩
      have hcon : Calls Tryz.prog 35 #[.slice (some ⟨w6.heap.size, 0, none⟩) 10 10, .pointer (some ⟨w.heap.size, 0, none⟩)] w7 _ := hcon o HO.out
      have R7 := Aside0.mk hr7
      have HTK := Aside0.mk (show tokL left2.data.toList = o by unfold tokL; rw [HN.out, HD.out, ← HM.out, if_neg (by omega), HO.out])
      clear hb7 hg7 hr7 G6 R6 GB6 h6 h61 f61 r6 HO
      cases o with
      | some t =>
        go_wp2_with (go_at_call 35; refine hcon.mono ?_; rintro e w8 ⟨rfl, hg8, hb8⟩; have G8 := Aside0.mk hg8; have GB8 := Aside0.mk (gb_then GB7.out hb8); clear hg8 hb8)
        go_end0
        exact next_tok HNE.out HLL.out HZ2.out HTK.out GB8.out G8.out
      | none =>
        go_wp2_with (go_at_call 35; refine hcon.mono ?_; rintro e w8 ⟨rfl, hg8, hb8⟩; have G8 := Aside0.mk hg8; have GB8 := Aside0.mk (gb_then GB7.out hb8); have r8 : w8.cell? ⟨w.heap.size, 0, none⟩ = some (.pointer (some ⟨g, 0, none⟩)) := hb8.cell ((blk_cell R7.out 0).trans rfl) (fun e => by injection e; exact hne' (by assumption)); clear hg8 hb8)
        go_at_call 41
        refine (fails_any g _ _ _ _ _ G8.out).mono ?_
        rintro e w9 ⟨⟨v, rfl⟩, hW, hb9⟩
        have HW := Aside0.mk hW
        have GB9 := Aside0.mk (gb_then GB8.out hb9)
        clear hW hb9
        go_wp2
        go_end0
        exact next_bad HNE.out (by rw [← HLL.out]; exact HTK.out) GB9.out HW.out
end Go.Proofs.YtoanmoddppmffaaGreatDoor.T
