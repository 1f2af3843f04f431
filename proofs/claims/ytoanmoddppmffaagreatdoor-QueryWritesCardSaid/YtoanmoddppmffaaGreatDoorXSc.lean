/- The reference's Same of any two rows of steps. -/
import Derived.Test.YtoanmoddppmffaaGreatDoorXFc
import Derived.BigQuiet
import Derived.Deep.QuietTactic
import Derived.Deep.DeepCutAuto
namespace Go.Proofs.YtoanmoddppmffaaGreatDoor.T
open Go.RowKit Go.Shelf Go.Proofs.YtoanmoddppmffaaGreatDoorW.PrintWords
set_option linter.unusedVariables false
set_option linter.unusedSimpArgs false
theorem name_ne {a b : ByteArray} (h : a ≠ b) : ¬ a.toList = b.toList := fun e => h (bs_ext (by rw [← toList_data, ← toList_data]; exact e))
theorem step_ext {x y : Step} (h0 : x.deep = y.deep) (h1 : x.axis = y.axis) (h2 : x.name = y.name) (h3 : eqB x.preds y.preds = true) : x = y := by
  rw [eqB_iff] at h3
  cases x; cases y
  simp only at h0 h1 h2 h3
  rw [h0, h1, h2, h3]
theorem pred_ext {x y : Pred} (h0 : x.kind = y.kind) (h1 : x.n = y.n) (h2 : eqB x.path y.path = true) (h3 : eqB x.args y.args = true) : x = y := by
  rw [eqB_iff] at h2 h3
  cases x; cases y
  simp only at h0 h1 h2 h3
  rw [h0, h1, h2, h3]
def RSameC (n : Nat) : Prop := ∀ (ok ok' : Nat → Prop) (w : World) (v u : Value) (xs ys : List Step), SlAt (stepR ok w n) ok w v xs → StepsR ok' w u ys → Calls Tryz.prog 12 #[v, u] w (SamePost (eqB xs ys) w)
def RSamePC (n : Nat) : Prop := ∀ (ok ok' : Nat → Prop) (w : World) (v u : Value) (xs ys : List Pred), SlAt (predR ok w n) ok w v xs → PredsR ok' w u ys → Calls Tryz.prog 21 #[v, u] w (SamePost (eqB xs ys) w)
set_option maxHeartbeats 16000000 in
set_option maxRecDepth 100000 in
theorem rSame_any (n : Nat) (IH : ∀ m, m < n → RSamePC m) : RSameC n := by
  intro ok ok' w v u xs ys hx hy
  obtain ⟨A, c, rfl, hc1, hc2⟩ := hx.slice
  obtain ⟨ny, hy'⟩ := hy
  obtain ⟨B, d, rfl, hd1, hd2⟩ := hy'.slice
  by_cases hlen : xs.length = ys.length
  · rw [← hlen]
    have HLEN := Aside0.mk hlen
    have HX := Aside0.mk hx
    have HY := Aside0.mk hy'
    have HIH := Aside0.mk IH
    have hm : (xs.length : Int) ≤ 9223372036854775807 := by unfold maxLen at hc2; omega
    clear hx hy' IH hlen
    go_enter Tryz.func12, Tryz.ntmps12
    go_wp2
    go_loopg [5] xs.length (fun gk iv wr => ∃ i : Nat, iv = .int .i64 i ∧ i ≤ xs.length ∧ xs.length - i ≤ gk ∧ Aside0 (Below w.heap.size w wr ∧ xs.take i = ys.take i))
    case atStart => exact ⟨0, rfl, by omega, by omega, ⟨Below.refl _ _, rfl⟩⟩
    case round =>
      obtain ⟨i, rfl, hi, hgk, H⟩ := hrel
      have hi0 : (0 : Int) ≤ (i : Int) := by omega
      by_cases hlt : i < xs.length
      · have hlt1 : (i : Int) < (xs.length : Int) := by omega
        obtain ⟨x, hxi⟩ : ∃ x, xs[i]? = some x := ⟨_, List.getElem?_eq_getElem hlt⟩
        obtain ⟨y, hyi⟩ : ∃ y, ys[i]? = some y := ⟨_, List.getElem?_eq_getElem (by have := HLEN.out; omega)⟩
        obtain ⟨m, ad, c', u1, rfl, hv1, hok1, hp1, x0, x1, x2, x3⟩ := HX.out.getS hxi
        obtain ⟨m2, bd, d', u2, rfl, hv2, hok2, hp2, y0, y1, y2, y3⟩ := HY.out.getS (n := ny) hyi
        simp only [Value.slice.injEq, true_and] at hv1 hv2
        obtain ⟨rfl, rfl⟩ := hv1
        obtain ⟨rfl, rfl⟩ := hv2
        have hbel := H.out.1
        have q0 : wr.cell? ⟨(ad.add (i * 4)).block, (ad.add (i * 4)).off + 3, none⟩ = some u1 := pw_cell_below hbel x3
        have q1 : wr.cell? ⟨(bd.add (i * 4)).block, (bd.add (i * 4)).off + 3, none⟩ = some u2 := pw_cell_below hbel y3
        obtain ⟨ep, he0⟩ : ∃ ep, ep = eqB x.preds y.preds := ⟨_, rfl⟩
        have hcall := HIH.out m (by omega) _ _ wr.drew u1 u2 x.preds y.preds (predsAt_below hp1 (below_step hbel (below_drew (Below.refl _ _)))) ⟨_, predsAt_below hp2 (below_step hbel (below_drew (Below.refl _ _)))⟩
        rw [← he0] at hcall
        have HNE : Aside0 (x ≠ y → eqB xs ys = false) := ⟨fun h => eqB_no (by rintro rfl; rw [hxi] at hyi; exact h (Option.some.inj hyi))⟩
        have HEQ : Aside0 (x = y → xs.take (i + 1) = ys.take (i + 1)) := ⟨fun e => by rw [List.take_add_one, List.take_add_one, H.out.2, hxi, hyi, e]⟩
        clear hxi hyi
        go_wp2_with fail
        refine B_region (fun w' => w'.cell? ⟨(ad.add (i * 4)).block, (ad.add (i * 4)).off + 3, none⟩ = some u1 ∧ w'.cell? ⟨(bd.add (i * 4)).block, (bd.add (i * 4)).off + 3, none⟩ = some u2) 12 (by kernel_rfl) ⟨q0, q1⟩ (fun hS0 => ?_)
        refine B_takeD 10 18 (i := 0) (v := .slice (some ad) xs.length c) rfl rfl (by kernel_rfl) (fun _ _ _ h => h) (by kernel_rfl) (fun w' hSw => ?_) hS0 ?_
        · obtain ⟨hs1, hs2⟩ := hSw; go_simp
        simp only [List.setIfInBounds_toArray, List.set_cons_zero, List.set_cons_succ]
        refine B_takeD 10 19 (i := 1) (v := .int .i64 i) rfl rfl (by kernel_rfl) (fun _ _ _ h => h) (by kernel_rfl) (fun w' hSw => ?_) hS0 ?_
        · obtain ⟨hs1, hs2⟩ := hSw; go_simp
        simp only [List.setIfInBounds_toArray, List.set_cons_zero, List.set_cons_succ]
        refine B_takeD 10 20 (i := 2) (v := .pointer (some (ad.add (i * 4)))) rfl rfl (by kernel_rfl) (fun _ _ _ h => h) (by kernel_rfl) (fun w' hSw => ?_) hS0 ?_
        · obtain ⟨hs1, hs2⟩ := hSw; go_simp
        simp only [List.setIfInBounds_toArray, List.set_cons_zero, List.set_cons_succ]
        refine B_takeD 10 21 (i := 3) (v := .pointer (some ⟨(ad.add (i * 4)).block, (ad.add (i * 4)).off + 3, none⟩)) rfl rfl (by kernel_rfl) (fun _ _ _ h => h) (by kernel_rfl) (fun w' hSw => ?_) hS0 ?_
        · obtain ⟨hs1, hs2⟩ := hSw; go_simp
        simp only [List.setIfInBounds_toArray, List.set_cons_zero, List.set_cons_succ]
        refine B_takeD 10 22 (i := 4) (v := u1) rfl rfl (by kernel_rfl) (fun _ _ _ h => h) (by kernel_rfl) (fun w' hSw => ?_) hS0 ?_
        · obtain ⟨hs1, hs2⟩ := hSw; go_simp
        simp only [List.setIfInBounds_toArray, List.set_cons_zero, List.set_cons_succ]
        refine B_takeD 10 23 (i := 5) (v := .slice (some bd) xs.length d) rfl rfl (by kernel_rfl) (fun _ _ _ h => h) (by kernel_rfl) (fun w' hSw => ?_) hS0 ?_
        · obtain ⟨hs1, hs2⟩ := hSw; go_simp
        simp only [List.setIfInBounds_toArray, List.set_cons_zero, List.set_cons_succ]
        refine B_takeD 10 24 (i := 6) (v := .int .i64 i) rfl rfl (by kernel_rfl) (fun _ _ _ h => h) (by kernel_rfl) (fun w' hSw => ?_) hS0 ?_
        · obtain ⟨hs1, hs2⟩ := hSw; go_simp
        simp only [List.setIfInBounds_toArray, List.set_cons_zero, List.set_cons_succ]
        refine B_takeD 10 25 (i := 7) (v := .pointer (some (bd.add (i * 4)))) rfl rfl (by kernel_rfl) (fun _ _ _ h => h) (by kernel_rfl) (fun w' hSw => ?_) hS0 ?_
        · obtain ⟨hs1, hs2⟩ := hSw; go_simp
        simp only [List.setIfInBounds_toArray, List.set_cons_zero, List.set_cons_succ]
        refine B_takeD 10 26 (i := 8) (v := .pointer (some ⟨(bd.add (i * 4)).block, (bd.add (i * 4)).off + 3, none⟩)) rfl rfl (by kernel_rfl) (fun _ _ _ h => h) (by kernel_rfl) (fun w' hSw => ?_) hS0 ?_
        · obtain ⟨hs1, hs2⟩ := hSw; go_simp
        simp only [List.setIfInBounds_toArray, List.set_cons_zero, List.set_cons_succ]
        refine B_takeD 10 27 (i := 9) (v := u2) rfl rfl (by kernel_rfl) (fun _ _ _ h => h) (by kernel_rfl) (fun w' hSw => ?_) hS0 ?_
        · obtain ⟨hs1, hs2⟩ := hSw; go_simp
        simp only [List.setIfInBounds_toArray, List.set_cons_zero, List.set_cons_succ]
        refine B_one (i := 10) rfl (by kernel_rfl) (fun K' hK => ?_)
        go_simp
        refine hcall.mono ?_
        rintro e w5 ⟨rfl, hb5⟩
        have hbel5 : Below w.heap.size w w5 := below_step (below_step hbel (below_drew (Below.refl _ _))) hb5
        have r0 : w5.cell? ⟨(ad.add (i * 4)).block, (ad.add (i * 4)).off + 3, none⟩ = some u1 := pw_cell_below hbel5 x3
        have r1 : w5.cell? ⟨(bd.add (i * 4)).block, (bd.add (i * 4)).off + 3, none⟩ = some u2 := pw_cell_below hbel5 y3
        refine hK.out _ _ ⟨r0, r1⟩ ?_
        clear hK K'
        try simp only [Act.put, List.setIfInBounds_toArray, List.set_cons_zero, List.set_cons_succ]
        refine B_one (i := 11) rfl (by kernel_rfl) (fun K' hK => ?_)
        go_simp
        refine hK.out _ _ ⟨r0, r1⟩ ?_
        clear hK K'
        try simp only [Act.put, List.setIfInBounds_toArray, List.set_cons_zero, List.set_cons_succ]
        refine ⟨by kernel_rfl, ?_⟩
        have x0' : w5.cell? (ad.add (i * 4)) = some (.bool x.deep) := pw_cell_below hbel5 x0
        have x1' : w5.cell? ⟨(ad.add (i * 4)).block, (ad.add (i * 4)).off + 1, none⟩ = some (.int .i64 x.axis) := pw_cell_below hbel5 x1
        have x2' : w5.cell? ⟨(ad.add (i * 4)).block, (ad.add (i * 4)).off + 2, none⟩ = some (.string x.name) := pw_cell_below hbel5 x2
        have y0' : w5.cell? (bd.add (i * 4)) = some (.bool y.deep) := pw_cell_below hbel5 y0
        have y1' : w5.cell? ⟨(bd.add (i * 4)).block, (bd.add (i * 4)).off + 1, none⟩ = some (.int .i64 y.axis) := pw_cell_below hbel5 y1
        have y2' : w5.cell? ⟨(bd.add (i * 4)).block, (bd.add (i * 4)).off + 2, none⟩ = some (.string y.name) := pw_cell_below hbel5 y2
        have HB9 := Aside0.mk hbel5
        clear hcall q0 q1 r0 r1 hb5 hbel hbel5 hS0 x0 x1 x2 x3 y0 y1 y2 y3 hp1 hp2
        by_cases d0 : x.deep = y.deep
        · rw [← d0] at y0'
          by_cases d1 : x.axis = y.axis
          · rw [← d1] at y1'
            by_cases d2 : x.name = y.name
            · rw [← d2] at y2'
              cases hep : eqB x.preds y.preds with
              | false =>
                have HNO : Aside0 (eqB xs ys = false) := ⟨HNE.out (fun e => by rw [e, eqB_self] at hep; cases hep)⟩
                rw [hep] at he0
                subst he0
                go_upto_region 7 with fail
                refine B_region (fun w' => w'.cell? (ad.add (i * 4)) = some (.bool x.deep) ∧ w'.cell? ⟨(ad.add (i * 4)).block, (ad.add (i * 4)).off + 1, none⟩ = some (.int .i64 x.axis) ∧ w'.cell? ⟨(ad.add (i * 4)).block, (ad.add (i * 4)).off + 2, none⟩ = some (.string x.name) ∧ w'.cell? (bd.add (i * 4)) = some (.bool x.deep) ∧ w'.cell? ⟨(bd.add (i * 4)).block, (bd.add (i * 4)).off + 1, none⟩ = some (.int .i64 x.axis) ∧ w'.cell? ⟨(bd.add (i * 4)).block, (bd.add (i * 4)).off + 2, none⟩ = some (.string x.name)) 41 (by kernel_rfl) ⟨x0', x1', x2', y0', y1', y2'⟩ (fun hS0 => ?_)
                refine B_takeD 41 29 (i := 0) (v := .slice (some ad) xs.length c) rfl rfl (by kernel_rfl) (fun _ _ _ h => h) (by kernel_rfl) (fun w' hSw => ?_) hS0 ?_
                · obtain ⟨hs1, hs2, hs3, hs4, hs5, hs6⟩ := hSw; go_simp
                simp only [List.setIfInBounds_toArray, List.set_cons_zero, List.set_cons_succ]
                refine B_takeD 41 30 (i := 1) (v := .int .i64 i) rfl rfl (by kernel_rfl) (fun _ _ _ h => h) (by kernel_rfl) (fun w' hSw => ?_) hS0 ?_
                · obtain ⟨hs1, hs2, hs3, hs4, hs5, hs6⟩ := hSw; go_simp
                simp only [List.setIfInBounds_toArray, List.set_cons_zero, List.set_cons_succ]
                refine B_takeD 41 31 (i := 2) (v := .pointer (some (ad.add (i * 4)))) rfl rfl (by kernel_rfl) (fun _ _ _ h => h) (by kernel_rfl) (fun w' hSw => ?_) hS0 ?_
                · obtain ⟨hs1, hs2, hs3, hs4, hs5, hs6⟩ := hSw; go_simp
                simp only [List.setIfInBounds_toArray, List.set_cons_zero, List.set_cons_succ]
                refine B_takeD 41 32 (i := 3) (v := .pointer (some (ad.add (i * 4)))) rfl rfl (by kernel_rfl) (fun _ _ _ h => h) (by kernel_rfl) (fun w' hSw => ?_) hS0 ?_
                · obtain ⟨hs1, hs2, hs3, hs4, hs5, hs6⟩ := hSw; go_simp
                simp only [List.setIfInBounds_toArray, List.set_cons_zero, List.set_cons_succ]
                refine B_takeD 41 33 (i := 4) (v := .bool x.deep) rfl rfl (by kernel_rfl) (fun _ _ _ h => h) (by kernel_rfl) (fun w' hSw => ?_) hS0 ?_
                · obtain ⟨hs1, hs2, hs3, hs4, hs5, hs6⟩ := hSw; go_simp
                simp only [List.setIfInBounds_toArray, List.set_cons_zero, List.set_cons_succ]
                refine B_takeD 41 34 (i := 5) (v := .slice (some bd) xs.length d) rfl rfl (by kernel_rfl) (fun _ _ _ h => h) (by kernel_rfl) (fun w' hSw => ?_) hS0 ?_
                · obtain ⟨hs1, hs2, hs3, hs4, hs5, hs6⟩ := hSw; go_simp
                simp only [List.setIfInBounds_toArray, List.set_cons_zero, List.set_cons_succ]
                refine B_takeD 41 35 (i := 6) (v := .int .i64 i) rfl rfl (by kernel_rfl) (fun _ _ _ h => h) (by kernel_rfl) (fun w' hSw => ?_) hS0 ?_
                · obtain ⟨hs1, hs2, hs3, hs4, hs5, hs6⟩ := hSw; go_simp
                simp only [List.setIfInBounds_toArray, List.set_cons_zero, List.set_cons_succ]
                refine B_takeD 41 36 (i := 7) (v := .pointer (some (bd.add (i * 4)))) rfl rfl (by kernel_rfl) (fun _ _ _ h => h) (by kernel_rfl) (fun w' hSw => ?_) hS0 ?_
                · obtain ⟨hs1, hs2, hs3, hs4, hs5, hs6⟩ := hSw; go_simp
                simp only [List.setIfInBounds_toArray, List.set_cons_zero, List.set_cons_succ]
                refine B_takeD 41 37 (i := 8) (v := .pointer (some (bd.add (i * 4)))) rfl rfl (by kernel_rfl) (fun _ _ _ h => h) (by kernel_rfl) (fun w' hSw => ?_) hS0 ?_
                · obtain ⟨hs1, hs2, hs3, hs4, hs5, hs6⟩ := hSw; go_simp
                simp only [List.setIfInBounds_toArray, List.set_cons_zero, List.set_cons_succ]
                refine B_takeD 41 38 (i := 9) (v := .bool x.deep) rfl rfl (by kernel_rfl) (fun _ _ _ h => h) (by kernel_rfl) (fun w' hSw => ?_) hS0 ?_
                · obtain ⟨hs1, hs2, hs3, hs4, hs5, hs6⟩ := hSw; go_simp
                simp only [List.setIfInBounds_toArray, List.set_cons_zero, List.set_cons_succ]
                refine B_takeD 41 39 (i := 10) (v := .bool false) rfl rfl (by kernel_rfl) (fun _ _ _ h => h) (by kernel_rfl) (fun w' hSw => ?_) hS0 ?_
                · obtain ⟨hs1, hs2, hs3, hs4, hs5, hs6⟩ := hSw; go_simp
                simp only [List.setIfInBounds_toArray, List.set_cons_zero, List.set_cons_succ]
                refine B_takeD 41 40 (i := 11) (v := .bool false) rfl rfl (by kernel_rfl) (fun _ _ _ h => h) (by kernel_rfl) (fun w' hSw => ?_) hS0 ?_
                · obtain ⟨hs1, hs2, hs3, hs4, hs5, hs6⟩ := hSw; go_simp
                simp only [List.setIfInBounds_toArray, List.set_cons_zero, List.set_cons_succ]
                refine B_takeD 41 41 (i := 12) (v := .slice (some ad) xs.length c) rfl rfl (by kernel_rfl) (fun _ _ _ h => h) (by kernel_rfl) (fun w' hSw => ?_) hS0 ?_
                · obtain ⟨hs1, hs2, hs3, hs4, hs5, hs6⟩ := hSw; go_simp
                simp only [List.setIfInBounds_toArray, List.set_cons_zero, List.set_cons_succ]
                refine B_takeD 41 42 (i := 13) (v := .int .i64 i) rfl rfl (by kernel_rfl) (fun _ _ _ h => h) (by kernel_rfl) (fun w' hSw => ?_) hS0 ?_
                · obtain ⟨hs1, hs2, hs3, hs4, hs5, hs6⟩ := hSw; go_simp
                simp only [List.setIfInBounds_toArray, List.set_cons_zero, List.set_cons_succ]
                refine B_takeD 41 43 (i := 14) (v := .pointer (some (ad.add (i * 4)))) rfl rfl (by kernel_rfl) (fun _ _ _ h => h) (by kernel_rfl) (fun w' hSw => ?_) hS0 ?_
                · obtain ⟨hs1, hs2, hs3, hs4, hs5, hs6⟩ := hSw; go_simp
                simp only [List.setIfInBounds_toArray, List.set_cons_zero, List.set_cons_succ]
                refine B_takeD 41 44 (i := 15) (v := .pointer (some ⟨(ad.add (i * 4)).block, (ad.add (i * 4)).off + 1, none⟩)) rfl rfl (by kernel_rfl) (fun _ _ _ h => h) (by kernel_rfl) (fun w' hSw => ?_) hS0 ?_
                · obtain ⟨hs1, hs2, hs3, hs4, hs5, hs6⟩ := hSw; go_simp
                simp only [List.setIfInBounds_toArray, List.set_cons_zero, List.set_cons_succ]
                refine B_takeD 41 45 (i := 16) (v := .int .i64 x.axis) rfl rfl (by kernel_rfl) (fun _ _ _ h => h) (by kernel_rfl) (fun w' hSw => ?_) hS0 ?_
                · obtain ⟨hs1, hs2, hs3, hs4, hs5, hs6⟩ := hSw; go_simp
                simp only [List.setIfInBounds_toArray, List.set_cons_zero, List.set_cons_succ]
                refine B_takeD 41 46 (i := 17) (v := .slice (some bd) xs.length d) rfl rfl (by kernel_rfl) (fun _ _ _ h => h) (by kernel_rfl) (fun w' hSw => ?_) hS0 ?_
                · obtain ⟨hs1, hs2, hs3, hs4, hs5, hs6⟩ := hSw; go_simp
                simp only [List.setIfInBounds_toArray, List.set_cons_zero, List.set_cons_succ]
                refine B_takeD 41 47 (i := 18) (v := .int .i64 i) rfl rfl (by kernel_rfl) (fun _ _ _ h => h) (by kernel_rfl) (fun w' hSw => ?_) hS0 ?_
                · obtain ⟨hs1, hs2, hs3, hs4, hs5, hs6⟩ := hSw; go_simp
                simp only [List.setIfInBounds_toArray, List.set_cons_zero, List.set_cons_succ]
                refine B_takeD 41 48 (i := 19) (v := .pointer (some (bd.add (i * 4)))) rfl rfl (by kernel_rfl) (fun _ _ _ h => h) (by kernel_rfl) (fun w' hSw => ?_) hS0 ?_
                · obtain ⟨hs1, hs2, hs3, hs4, hs5, hs6⟩ := hSw; go_simp
                simp only [List.setIfInBounds_toArray, List.set_cons_zero, List.set_cons_succ]
                refine B_takeD 41 49 (i := 20) (v := .pointer (some ⟨(bd.add (i * 4)).block, (bd.add (i * 4)).off + 1, none⟩)) rfl rfl (by kernel_rfl) (fun _ _ _ h => h) (by kernel_rfl) (fun w' hSw => ?_) hS0 ?_
                · obtain ⟨hs1, hs2, hs3, hs4, hs5, hs6⟩ := hSw; go_simp
                simp only [List.setIfInBounds_toArray, List.set_cons_zero, List.set_cons_succ]
                refine B_takeD 41 50 (i := 21) (v := .int .i64 x.axis) rfl rfl (by kernel_rfl) (fun _ _ _ h => h) (by kernel_rfl) (fun w' hSw => ?_) hS0 ?_
                · obtain ⟨hs1, hs2, hs3, hs4, hs5, hs6⟩ := hSw; go_simp
                simp only [List.setIfInBounds_toArray, List.set_cons_zero, List.set_cons_succ]
                refine B_takeD 41 51 (i := 22) (v := .bool false) rfl rfl (by kernel_rfl) (fun _ _ _ h => h) (by kernel_rfl) (fun w' hSw => ?_) hS0 ?_
                · obtain ⟨hs1, hs2, hs3, hs4, hs5, hs6⟩ := hSw; go_simp
                simp only [List.setIfInBounds_toArray, List.set_cons_zero, List.set_cons_succ]
                refine B_takeD 41 52 (i := 23) (v := .bool false) rfl rfl (by kernel_rfl) (fun _ _ _ h => h) (by kernel_rfl) (fun w' hSw => ?_) hS0 ?_
                · obtain ⟨hs1, hs2, hs3, hs4, hs5, hs6⟩ := hSw; go_simp
                simp only [List.setIfInBounds_toArray, List.set_cons_zero, List.set_cons_succ]
                refine B_takeD 41 53 (i := 24) (v := .bool false) rfl rfl (by kernel_rfl) (fun _ _ _ h => h) (by kernel_rfl) (fun w' hSw => ?_) hS0 ?_
                · obtain ⟨hs1, hs2, hs3, hs4, hs5, hs6⟩ := hSw; go_simp
                simp only [List.setIfInBounds_toArray, List.set_cons_zero, List.set_cons_succ]
                refine B_takeD 41 54 (i := 25) (v := .slice (some ad) xs.length c) rfl rfl (by kernel_rfl) (fun _ _ _ h => h) (by kernel_rfl) (fun w' hSw => ?_) hS0 ?_
                · obtain ⟨hs1, hs2, hs3, hs4, hs5, hs6⟩ := hSw; go_simp
                simp only [List.setIfInBounds_toArray, List.set_cons_zero, List.set_cons_succ]
                refine B_takeD 41 55 (i := 26) (v := .int .i64 i) rfl rfl (by kernel_rfl) (fun _ _ _ h => h) (by kernel_rfl) (fun w' hSw => ?_) hS0 ?_
                · obtain ⟨hs1, hs2, hs3, hs4, hs5, hs6⟩ := hSw; go_simp
                simp only [List.setIfInBounds_toArray, List.set_cons_zero, List.set_cons_succ]
                refine B_takeD 41 56 (i := 27) (v := .pointer (some (ad.add (i * 4)))) rfl rfl (by kernel_rfl) (fun _ _ _ h => h) (by kernel_rfl) (fun w' hSw => ?_) hS0 ?_
                · obtain ⟨hs1, hs2, hs3, hs4, hs5, hs6⟩ := hSw; go_simp
                simp only [List.setIfInBounds_toArray, List.set_cons_zero, List.set_cons_succ]
                refine B_takeD 41 57 (i := 28) (v := .pointer (some ⟨(ad.add (i * 4)).block, (ad.add (i * 4)).off + 2, none⟩)) rfl rfl (by kernel_rfl) (fun _ _ _ h => h) (by kernel_rfl) (fun w' hSw => ?_) hS0 ?_
                · obtain ⟨hs1, hs2, hs3, hs4, hs5, hs6⟩ := hSw; go_simp
                simp only [List.setIfInBounds_toArray, List.set_cons_zero, List.set_cons_succ]
                refine B_takeD 41 58 (i := 29) (v := .string x.name) rfl rfl (by kernel_rfl) (fun _ _ _ h => h) (by kernel_rfl) (fun w' hSw => ?_) hS0 ?_
                · obtain ⟨hs1, hs2, hs3, hs4, hs5, hs6⟩ := hSw; go_simp
                simp only [List.setIfInBounds_toArray, List.set_cons_zero, List.set_cons_succ]
                refine B_takeD 41 59 (i := 30) (v := .slice (some bd) xs.length d) rfl rfl (by kernel_rfl) (fun _ _ _ h => h) (by kernel_rfl) (fun w' hSw => ?_) hS0 ?_
                · obtain ⟨hs1, hs2, hs3, hs4, hs5, hs6⟩ := hSw; go_simp
                simp only [List.setIfInBounds_toArray, List.set_cons_zero, List.set_cons_succ]
                refine B_takeD 41 60 (i := 31) (v := .int .i64 i) rfl rfl (by kernel_rfl) (fun _ _ _ h => h) (by kernel_rfl) (fun w' hSw => ?_) hS0 ?_
                · obtain ⟨hs1, hs2, hs3, hs4, hs5, hs6⟩ := hSw; go_simp
                simp only [List.setIfInBounds_toArray, List.set_cons_zero, List.set_cons_succ]
                refine B_takeD 41 61 (i := 32) (v := .pointer (some (bd.add (i * 4)))) rfl rfl (by kernel_rfl) (fun _ _ _ h => h) (by kernel_rfl) (fun w' hSw => ?_) hS0 ?_
                · obtain ⟨hs1, hs2, hs3, hs4, hs5, hs6⟩ := hSw; go_simp
                simp only [List.setIfInBounds_toArray, List.set_cons_zero, List.set_cons_succ]
                refine B_takeD 41 62 (i := 33) (v := .pointer (some ⟨(bd.add (i * 4)).block, (bd.add (i * 4)).off + 2, none⟩)) rfl rfl (by kernel_rfl) (fun _ _ _ h => h) (by kernel_rfl) (fun w' hSw => ?_) hS0 ?_
                · obtain ⟨hs1, hs2, hs3, hs4, hs5, hs6⟩ := hSw; go_simp
                simp only [List.setIfInBounds_toArray, List.set_cons_zero, List.set_cons_succ]
                refine B_takeD 41 63 (i := 34) (v := .string x.name) rfl rfl (by kernel_rfl) (fun _ _ _ h => h) (by kernel_rfl) (fun w' hSw => ?_) hS0 ?_
                · obtain ⟨hs1, hs2, hs3, hs4, hs5, hs6⟩ := hSw; go_simp
                simp only [List.setIfInBounds_toArray, List.set_cons_zero, List.set_cons_succ]
                refine B_takeD 41 64 (i := 35) (v := .bool false) rfl rfl (by kernel_rfl) (fun _ _ _ h => h) (by kernel_rfl) (fun w' hSw => ?_) hS0 ?_
                · obtain ⟨hs1, hs2, hs3, hs4, hs5, hs6⟩ := hSw; go_simp
                simp only [List.setIfInBounds_toArray, List.set_cons_zero, List.set_cons_succ]
                refine B_takeD 41 65 (i := 36) (v := .bool false) rfl rfl (by kernel_rfl) (fun _ _ _ h => h) (by kernel_rfl) (fun w' hSw => ?_) hS0 ?_
                · obtain ⟨hs1, hs2, hs3, hs4, hs5, hs6⟩ := hSw; go_simp
                simp only [List.setIfInBounds_toArray, List.set_cons_zero, List.set_cons_succ]
                refine B_takeD 41 66 (i := 37) (v := .bool false) rfl rfl (by kernel_rfl) (fun _ _ _ h => h) (by kernel_rfl) (fun w' hSw => ?_) hS0 ?_
                · obtain ⟨hs1, hs2, hs3, hs4, hs5, hs6⟩ := hSw; go_simp
                simp only [List.setIfInBounds_toArray, List.set_cons_zero, List.set_cons_succ]
                refine B_takeD 41 67 (i := 38) (v := .bool false) rfl rfl (by kernel_rfl) (fun _ _ _ h => h) (by kernel_rfl) (fun w' hSw => ?_) hS0 ?_
                · obtain ⟨hs1, hs2, hs3, hs4, hs5, hs6⟩ := hSw; go_simp
                simp only [List.setIfInBounds_toArray, List.set_cons_zero, List.set_cons_succ]
                refine B_takeD 41 68 (i := 39) (v := .bool true) rfl rfl (by kernel_rfl) (fun _ _ _ h => h) (by kernel_rfl) (fun w' hSw => ?_) hS0 ?_
                · obtain ⟨hs1, hs2, hs3, hs4, hs5, hs6⟩ := hSw; go_simp
                simp only [List.setIfInBounds_toArray, List.set_cons_zero, List.set_cons_succ]
                refine B_takeD 41 69 (i := 40) (v := .bool true) rfl rfl (by kernel_rfl) (fun _ _ _ h => h) (by kernel_rfl) (fun w' hSw => ?_) hS0 ?_
                · obtain ⟨hs1, hs2, hs3, hs4, hs5, hs6⟩ := hSw; go_simp
                simp only [List.setIfInBounds_toArray, List.set_cons_zero, List.set_cons_succ]
                refine ⟨by kernel_rfl, ?_⟩
                clear hS0 x0' x1' x2' y0' y1' y2'
                go_wp2
                go_ret
                exact ⟨congrArg (fun x => Ending.returned (Value.bool x)) HNO.out.symm, below_step HB9.out (below_drew (Below.refl _ _))⟩
              | true =>
                rw [hep] at he0
                subst he0
                have HMO : Aside0 (xs.take (i + 1) = ys.take (i + 1)) := ⟨HEQ.out (step_ext d0 d1 d2 hep)⟩
                go_upto_region 7 with fail
                refine B_region (fun w' => w'.cell? (ad.add (i * 4)) = some (.bool x.deep) ∧ w'.cell? ⟨(ad.add (i * 4)).block, (ad.add (i * 4)).off + 1, none⟩ = some (.int .i64 x.axis) ∧ w'.cell? ⟨(ad.add (i * 4)).block, (ad.add (i * 4)).off + 2, none⟩ = some (.string x.name) ∧ w'.cell? (bd.add (i * 4)) = some (.bool x.deep) ∧ w'.cell? ⟨(bd.add (i * 4)).block, (bd.add (i * 4)).off + 1, none⟩ = some (.int .i64 x.axis) ∧ w'.cell? ⟨(bd.add (i * 4)).block, (bd.add (i * 4)).off + 2, none⟩ = some (.string x.name)) 41 (by kernel_rfl) ⟨x0', x1', x2', y0', y1', y2'⟩ (fun hS0 => ?_)
                refine B_takeD 41 29 (i := 0) (v := .slice (some ad) xs.length c) rfl rfl (by kernel_rfl) (fun _ _ _ h => h) (by kernel_rfl) (fun w' hSw => ?_) hS0 ?_
                · obtain ⟨hs1, hs2, hs3, hs4, hs5, hs6⟩ := hSw; go_simp
                simp only [List.setIfInBounds_toArray, List.set_cons_zero, List.set_cons_succ]
                refine B_takeD 41 30 (i := 1) (v := .int .i64 i) rfl rfl (by kernel_rfl) (fun _ _ _ h => h) (by kernel_rfl) (fun w' hSw => ?_) hS0 ?_
                · obtain ⟨hs1, hs2, hs3, hs4, hs5, hs6⟩ := hSw; go_simp
                simp only [List.setIfInBounds_toArray, List.set_cons_zero, List.set_cons_succ]
                refine B_takeD 41 31 (i := 2) (v := .pointer (some (ad.add (i * 4)))) rfl rfl (by kernel_rfl) (fun _ _ _ h => h) (by kernel_rfl) (fun w' hSw => ?_) hS0 ?_
                · obtain ⟨hs1, hs2, hs3, hs4, hs5, hs6⟩ := hSw; go_simp
                simp only [List.setIfInBounds_toArray, List.set_cons_zero, List.set_cons_succ]
                refine B_takeD 41 32 (i := 3) (v := .pointer (some (ad.add (i * 4)))) rfl rfl (by kernel_rfl) (fun _ _ _ h => h) (by kernel_rfl) (fun w' hSw => ?_) hS0 ?_
                · obtain ⟨hs1, hs2, hs3, hs4, hs5, hs6⟩ := hSw; go_simp
                simp only [List.setIfInBounds_toArray, List.set_cons_zero, List.set_cons_succ]
                refine B_takeD 41 33 (i := 4) (v := .bool x.deep) rfl rfl (by kernel_rfl) (fun _ _ _ h => h) (by kernel_rfl) (fun w' hSw => ?_) hS0 ?_
                · obtain ⟨hs1, hs2, hs3, hs4, hs5, hs6⟩ := hSw; go_simp
                simp only [List.setIfInBounds_toArray, List.set_cons_zero, List.set_cons_succ]
                refine B_takeD 41 34 (i := 5) (v := .slice (some bd) xs.length d) rfl rfl (by kernel_rfl) (fun _ _ _ h => h) (by kernel_rfl) (fun w' hSw => ?_) hS0 ?_
                · obtain ⟨hs1, hs2, hs3, hs4, hs5, hs6⟩ := hSw; go_simp
                simp only [List.setIfInBounds_toArray, List.set_cons_zero, List.set_cons_succ]
                refine B_takeD 41 35 (i := 6) (v := .int .i64 i) rfl rfl (by kernel_rfl) (fun _ _ _ h => h) (by kernel_rfl) (fun w' hSw => ?_) hS0 ?_
                · obtain ⟨hs1, hs2, hs3, hs4, hs5, hs6⟩ := hSw; go_simp
                simp only [List.setIfInBounds_toArray, List.set_cons_zero, List.set_cons_succ]
                refine B_takeD 41 36 (i := 7) (v := .pointer (some (bd.add (i * 4)))) rfl rfl (by kernel_rfl) (fun _ _ _ h => h) (by kernel_rfl) (fun w' hSw => ?_) hS0 ?_
                · obtain ⟨hs1, hs2, hs3, hs4, hs5, hs6⟩ := hSw; go_simp
                simp only [List.setIfInBounds_toArray, List.set_cons_zero, List.set_cons_succ]
                refine B_takeD 41 37 (i := 8) (v := .pointer (some (bd.add (i * 4)))) rfl rfl (by kernel_rfl) (fun _ _ _ h => h) (by kernel_rfl) (fun w' hSw => ?_) hS0 ?_
                · obtain ⟨hs1, hs2, hs3, hs4, hs5, hs6⟩ := hSw; go_simp
                simp only [List.setIfInBounds_toArray, List.set_cons_zero, List.set_cons_succ]
                refine B_takeD 41 38 (i := 9) (v := .bool x.deep) rfl rfl (by kernel_rfl) (fun _ _ _ h => h) (by kernel_rfl) (fun w' hSw => ?_) hS0 ?_
                · obtain ⟨hs1, hs2, hs3, hs4, hs5, hs6⟩ := hSw; go_simp
                simp only [List.setIfInBounds_toArray, List.set_cons_zero, List.set_cons_succ]
                refine B_takeD 41 39 (i := 10) (v := .bool false) rfl rfl (by kernel_rfl) (fun _ _ _ h => h) (by kernel_rfl) (fun w' hSw => ?_) hS0 ?_
                · obtain ⟨hs1, hs2, hs3, hs4, hs5, hs6⟩ := hSw; go_simp
                simp only [List.setIfInBounds_toArray, List.set_cons_zero, List.set_cons_succ]
                refine B_takeD 41 40 (i := 11) (v := .bool false) rfl rfl (by kernel_rfl) (fun _ _ _ h => h) (by kernel_rfl) (fun w' hSw => ?_) hS0 ?_
                · obtain ⟨hs1, hs2, hs3, hs4, hs5, hs6⟩ := hSw; go_simp
                simp only [List.setIfInBounds_toArray, List.set_cons_zero, List.set_cons_succ]
                refine B_takeD 41 41 (i := 12) (v := .slice (some ad) xs.length c) rfl rfl (by kernel_rfl) (fun _ _ _ h => h) (by kernel_rfl) (fun w' hSw => ?_) hS0 ?_
                · obtain ⟨hs1, hs2, hs3, hs4, hs5, hs6⟩ := hSw; go_simp
                simp only [List.setIfInBounds_toArray, List.set_cons_zero, List.set_cons_succ]
                refine B_takeD 41 42 (i := 13) (v := .int .i64 i) rfl rfl (by kernel_rfl) (fun _ _ _ h => h) (by kernel_rfl) (fun w' hSw => ?_) hS0 ?_
                · obtain ⟨hs1, hs2, hs3, hs4, hs5, hs6⟩ := hSw; go_simp
                simp only [List.setIfInBounds_toArray, List.set_cons_zero, List.set_cons_succ]
                refine B_takeD 41 43 (i := 14) (v := .pointer (some (ad.add (i * 4)))) rfl rfl (by kernel_rfl) (fun _ _ _ h => h) (by kernel_rfl) (fun w' hSw => ?_) hS0 ?_
                · obtain ⟨hs1, hs2, hs3, hs4, hs5, hs6⟩ := hSw; go_simp
                simp only [List.setIfInBounds_toArray, List.set_cons_zero, List.set_cons_succ]
                refine B_takeD 41 44 (i := 15) (v := .pointer (some ⟨(ad.add (i * 4)).block, (ad.add (i * 4)).off + 1, none⟩)) rfl rfl (by kernel_rfl) (fun _ _ _ h => h) (by kernel_rfl) (fun w' hSw => ?_) hS0 ?_
                · obtain ⟨hs1, hs2, hs3, hs4, hs5, hs6⟩ := hSw; go_simp
                simp only [List.setIfInBounds_toArray, List.set_cons_zero, List.set_cons_succ]
                refine B_takeD 41 45 (i := 16) (v := .int .i64 x.axis) rfl rfl (by kernel_rfl) (fun _ _ _ h => h) (by kernel_rfl) (fun w' hSw => ?_) hS0 ?_
                · obtain ⟨hs1, hs2, hs3, hs4, hs5, hs6⟩ := hSw; go_simp
                simp only [List.setIfInBounds_toArray, List.set_cons_zero, List.set_cons_succ]
                refine B_takeD 41 46 (i := 17) (v := .slice (some bd) xs.length d) rfl rfl (by kernel_rfl) (fun _ _ _ h => h) (by kernel_rfl) (fun w' hSw => ?_) hS0 ?_
                · obtain ⟨hs1, hs2, hs3, hs4, hs5, hs6⟩ := hSw; go_simp
                simp only [List.setIfInBounds_toArray, List.set_cons_zero, List.set_cons_succ]
                refine B_takeD 41 47 (i := 18) (v := .int .i64 i) rfl rfl (by kernel_rfl) (fun _ _ _ h => h) (by kernel_rfl) (fun w' hSw => ?_) hS0 ?_
                · obtain ⟨hs1, hs2, hs3, hs4, hs5, hs6⟩ := hSw; go_simp
                simp only [List.setIfInBounds_toArray, List.set_cons_zero, List.set_cons_succ]
                refine B_takeD 41 48 (i := 19) (v := .pointer (some (bd.add (i * 4)))) rfl rfl (by kernel_rfl) (fun _ _ _ h => h) (by kernel_rfl) (fun w' hSw => ?_) hS0 ?_
                · obtain ⟨hs1, hs2, hs3, hs4, hs5, hs6⟩ := hSw; go_simp
                simp only [List.setIfInBounds_toArray, List.set_cons_zero, List.set_cons_succ]
                refine B_takeD 41 49 (i := 20) (v := .pointer (some ⟨(bd.add (i * 4)).block, (bd.add (i * 4)).off + 1, none⟩)) rfl rfl (by kernel_rfl) (fun _ _ _ h => h) (by kernel_rfl) (fun w' hSw => ?_) hS0 ?_
                · obtain ⟨hs1, hs2, hs3, hs4, hs5, hs6⟩ := hSw; go_simp
                simp only [List.setIfInBounds_toArray, List.set_cons_zero, List.set_cons_succ]
                refine B_takeD 41 50 (i := 21) (v := .int .i64 x.axis) rfl rfl (by kernel_rfl) (fun _ _ _ h => h) (by kernel_rfl) (fun w' hSw => ?_) hS0 ?_
                · obtain ⟨hs1, hs2, hs3, hs4, hs5, hs6⟩ := hSw; go_simp
                simp only [List.setIfInBounds_toArray, List.set_cons_zero, List.set_cons_succ]
                refine B_takeD 41 51 (i := 22) (v := .bool false) rfl rfl (by kernel_rfl) (fun _ _ _ h => h) (by kernel_rfl) (fun w' hSw => ?_) hS0 ?_
                · obtain ⟨hs1, hs2, hs3, hs4, hs5, hs6⟩ := hSw; go_simp
                simp only [List.setIfInBounds_toArray, List.set_cons_zero, List.set_cons_succ]
                refine B_takeD 41 52 (i := 23) (v := .bool false) rfl rfl (by kernel_rfl) (fun _ _ _ h => h) (by kernel_rfl) (fun w' hSw => ?_) hS0 ?_
                · obtain ⟨hs1, hs2, hs3, hs4, hs5, hs6⟩ := hSw; go_simp
                simp only [List.setIfInBounds_toArray, List.set_cons_zero, List.set_cons_succ]
                refine B_takeD 41 53 (i := 24) (v := .bool false) rfl rfl (by kernel_rfl) (fun _ _ _ h => h) (by kernel_rfl) (fun w' hSw => ?_) hS0 ?_
                · obtain ⟨hs1, hs2, hs3, hs4, hs5, hs6⟩ := hSw; go_simp
                simp only [List.setIfInBounds_toArray, List.set_cons_zero, List.set_cons_succ]
                refine B_takeD 41 54 (i := 25) (v := .slice (some ad) xs.length c) rfl rfl (by kernel_rfl) (fun _ _ _ h => h) (by kernel_rfl) (fun w' hSw => ?_) hS0 ?_
                · obtain ⟨hs1, hs2, hs3, hs4, hs5, hs6⟩ := hSw; go_simp
                simp only [List.setIfInBounds_toArray, List.set_cons_zero, List.set_cons_succ]
                refine B_takeD 41 55 (i := 26) (v := .int .i64 i) rfl rfl (by kernel_rfl) (fun _ _ _ h => h) (by kernel_rfl) (fun w' hSw => ?_) hS0 ?_
                · obtain ⟨hs1, hs2, hs3, hs4, hs5, hs6⟩ := hSw; go_simp
                simp only [List.setIfInBounds_toArray, List.set_cons_zero, List.set_cons_succ]
                refine B_takeD 41 56 (i := 27) (v := .pointer (some (ad.add (i * 4)))) rfl rfl (by kernel_rfl) (fun _ _ _ h => h) (by kernel_rfl) (fun w' hSw => ?_) hS0 ?_
                · obtain ⟨hs1, hs2, hs3, hs4, hs5, hs6⟩ := hSw; go_simp
                simp only [List.setIfInBounds_toArray, List.set_cons_zero, List.set_cons_succ]
                refine B_takeD 41 57 (i := 28) (v := .pointer (some ⟨(ad.add (i * 4)).block, (ad.add (i * 4)).off + 2, none⟩)) rfl rfl (by kernel_rfl) (fun _ _ _ h => h) (by kernel_rfl) (fun w' hSw => ?_) hS0 ?_
                · obtain ⟨hs1, hs2, hs3, hs4, hs5, hs6⟩ := hSw; go_simp
                simp only [List.setIfInBounds_toArray, List.set_cons_zero, List.set_cons_succ]
                refine B_takeD 41 58 (i := 29) (v := .string x.name) rfl rfl (by kernel_rfl) (fun _ _ _ h => h) (by kernel_rfl) (fun w' hSw => ?_) hS0 ?_
                · obtain ⟨hs1, hs2, hs3, hs4, hs5, hs6⟩ := hSw; go_simp
                simp only [List.setIfInBounds_toArray, List.set_cons_zero, List.set_cons_succ]
                refine B_takeD 41 59 (i := 30) (v := .slice (some bd) xs.length d) rfl rfl (by kernel_rfl) (fun _ _ _ h => h) (by kernel_rfl) (fun w' hSw => ?_) hS0 ?_
                · obtain ⟨hs1, hs2, hs3, hs4, hs5, hs6⟩ := hSw; go_simp
                simp only [List.setIfInBounds_toArray, List.set_cons_zero, List.set_cons_succ]
                refine B_takeD 41 60 (i := 31) (v := .int .i64 i) rfl rfl (by kernel_rfl) (fun _ _ _ h => h) (by kernel_rfl) (fun w' hSw => ?_) hS0 ?_
                · obtain ⟨hs1, hs2, hs3, hs4, hs5, hs6⟩ := hSw; go_simp
                simp only [List.setIfInBounds_toArray, List.set_cons_zero, List.set_cons_succ]
                refine B_takeD 41 61 (i := 32) (v := .pointer (some (bd.add (i * 4)))) rfl rfl (by kernel_rfl) (fun _ _ _ h => h) (by kernel_rfl) (fun w' hSw => ?_) hS0 ?_
                · obtain ⟨hs1, hs2, hs3, hs4, hs5, hs6⟩ := hSw; go_simp
                simp only [List.setIfInBounds_toArray, List.set_cons_zero, List.set_cons_succ]
                refine B_takeD 41 62 (i := 33) (v := .pointer (some ⟨(bd.add (i * 4)).block, (bd.add (i * 4)).off + 2, none⟩)) rfl rfl (by kernel_rfl) (fun _ _ _ h => h) (by kernel_rfl) (fun w' hSw => ?_) hS0 ?_
                · obtain ⟨hs1, hs2, hs3, hs4, hs5, hs6⟩ := hSw; go_simp
                simp only [List.setIfInBounds_toArray, List.set_cons_zero, List.set_cons_succ]
                refine B_takeD 41 63 (i := 34) (v := .string x.name) rfl rfl (by kernel_rfl) (fun _ _ _ h => h) (by kernel_rfl) (fun w' hSw => ?_) hS0 ?_
                · obtain ⟨hs1, hs2, hs3, hs4, hs5, hs6⟩ := hSw; go_simp
                simp only [List.setIfInBounds_toArray, List.set_cons_zero, List.set_cons_succ]
                refine B_takeD 41 64 (i := 35) (v := .bool false) rfl rfl (by kernel_rfl) (fun _ _ _ h => h) (by kernel_rfl) (fun w' hSw => ?_) hS0 ?_
                · obtain ⟨hs1, hs2, hs3, hs4, hs5, hs6⟩ := hSw; go_simp
                simp only [List.setIfInBounds_toArray, List.set_cons_zero, List.set_cons_succ]
                refine B_takeD 41 65 (i := 36) (v := .bool false) rfl rfl (by kernel_rfl) (fun _ _ _ h => h) (by kernel_rfl) (fun w' hSw => ?_) hS0 ?_
                · obtain ⟨hs1, hs2, hs3, hs4, hs5, hs6⟩ := hSw; go_simp
                simp only [List.setIfInBounds_toArray, List.set_cons_zero, List.set_cons_succ]
                refine B_takeD 41 66 (i := 37) (v := .bool false) rfl rfl (by kernel_rfl) (fun _ _ _ h => h) (by kernel_rfl) (fun w' hSw => ?_) hS0 ?_
                · obtain ⟨hs1, hs2, hs3, hs4, hs5, hs6⟩ := hSw; go_simp
                simp only [List.setIfInBounds_toArray, List.set_cons_zero, List.set_cons_succ]
                refine B_takeD 41 67 (i := 38) (v := .bool true) rfl rfl (by kernel_rfl) (fun _ _ _ h => h) (by kernel_rfl) (fun w' hSw => ?_) hS0 ?_
                · obtain ⟨hs1, hs2, hs3, hs4, hs5, hs6⟩ := hSw; go_simp
                simp only [List.setIfInBounds_toArray, List.set_cons_zero, List.set_cons_succ]
                refine B_takeD 41 68 (i := 39) (v := .bool false) rfl rfl (by kernel_rfl) (fun _ _ _ h => h) (by kernel_rfl) (fun w' hSw => ?_) hS0 ?_
                · obtain ⟨hs1, hs2, hs3, hs4, hs5, hs6⟩ := hSw; go_simp
                simp only [List.setIfInBounds_toArray, List.set_cons_zero, List.set_cons_succ]
                refine B_takeD 41 69 (i := 40) (v := .bool false) rfl rfl (by kernel_rfl) (fun _ _ _ h => h) (by kernel_rfl) (fun w' hSw => ?_) hS0 ?_
                · obtain ⟨hs1, hs2, hs3, hs4, hs5, hs6⟩ := hSw; go_simp
                simp only [List.setIfInBounds_toArray, List.set_cons_zero, List.set_cons_succ]
                refine ⟨by kernel_rfl, ?_⟩
                clear hS0 x0' x1' x2' y0' y1' y2'
                go_wp2
                go_roundg (xs.length - (i + 1))
                case rel => exact ⟨i + 1, by go_num, by omega, by omega, ⟨below_step HB9.out (below_drew (Below.refl _ _)), HMO.out⟩⟩
                case measure => omega
            · have d2' := name_ne d2
              have HNO : Aside0 (eqB xs ys = false) := ⟨HNE.out (fun e => d2 (by rw [e]))⟩
              go_upto_region 7 with fail
              refine B_region (fun w' => w'.cell? (ad.add (i * 4)) = some (.bool x.deep) ∧ w'.cell? ⟨(ad.add (i * 4)).block, (ad.add (i * 4)).off + 1, none⟩ = some (.int .i64 x.axis) ∧ w'.cell? ⟨(ad.add (i * 4)).block, (ad.add (i * 4)).off + 2, none⟩ = some (.string x.name) ∧ w'.cell? (bd.add (i * 4)) = some (.bool x.deep) ∧ w'.cell? ⟨(bd.add (i * 4)).block, (bd.add (i * 4)).off + 1, none⟩ = some (.int .i64 x.axis) ∧ w'.cell? ⟨(bd.add (i * 4)).block, (bd.add (i * 4)).off + 2, none⟩ = some (.string y.name)) 41 (by kernel_rfl) ⟨x0', x1', x2', y0', y1', y2'⟩ (fun hS0 => ?_)
              refine B_takeD 41 29 (i := 0) (v := .slice (some ad) xs.length c) rfl rfl (by kernel_rfl) (fun _ _ _ h => h) (by kernel_rfl) (fun w' hSw => ?_) hS0 ?_
              · obtain ⟨hs1, hs2, hs3, hs4, hs5, hs6⟩ := hSw; go_simp
              simp only [List.setIfInBounds_toArray, List.set_cons_zero, List.set_cons_succ]
              refine B_takeD 41 30 (i := 1) (v := .int .i64 i) rfl rfl (by kernel_rfl) (fun _ _ _ h => h) (by kernel_rfl) (fun w' hSw => ?_) hS0 ?_
              · obtain ⟨hs1, hs2, hs3, hs4, hs5, hs6⟩ := hSw; go_simp
              simp only [List.setIfInBounds_toArray, List.set_cons_zero, List.set_cons_succ]
              refine B_takeD 41 31 (i := 2) (v := .pointer (some (ad.add (i * 4)))) rfl rfl (by kernel_rfl) (fun _ _ _ h => h) (by kernel_rfl) (fun w' hSw => ?_) hS0 ?_
              · obtain ⟨hs1, hs2, hs3, hs4, hs5, hs6⟩ := hSw; go_simp
              simp only [List.setIfInBounds_toArray, List.set_cons_zero, List.set_cons_succ]
              refine B_takeD 41 32 (i := 3) (v := .pointer (some (ad.add (i * 4)))) rfl rfl (by kernel_rfl) (fun _ _ _ h => h) (by kernel_rfl) (fun w' hSw => ?_) hS0 ?_
              · obtain ⟨hs1, hs2, hs3, hs4, hs5, hs6⟩ := hSw; go_simp
              simp only [List.setIfInBounds_toArray, List.set_cons_zero, List.set_cons_succ]
              refine B_takeD 41 33 (i := 4) (v := .bool x.deep) rfl rfl (by kernel_rfl) (fun _ _ _ h => h) (by kernel_rfl) (fun w' hSw => ?_) hS0 ?_
              · obtain ⟨hs1, hs2, hs3, hs4, hs5, hs6⟩ := hSw; go_simp
              simp only [List.setIfInBounds_toArray, List.set_cons_zero, List.set_cons_succ]
              refine B_takeD 41 34 (i := 5) (v := .slice (some bd) xs.length d) rfl rfl (by kernel_rfl) (fun _ _ _ h => h) (by kernel_rfl) (fun w' hSw => ?_) hS0 ?_
              · obtain ⟨hs1, hs2, hs3, hs4, hs5, hs6⟩ := hSw; go_simp
              simp only [List.setIfInBounds_toArray, List.set_cons_zero, List.set_cons_succ]
              refine B_takeD 41 35 (i := 6) (v := .int .i64 i) rfl rfl (by kernel_rfl) (fun _ _ _ h => h) (by kernel_rfl) (fun w' hSw => ?_) hS0 ?_
              · obtain ⟨hs1, hs2, hs3, hs4, hs5, hs6⟩ := hSw; go_simp
              simp only [List.setIfInBounds_toArray, List.set_cons_zero, List.set_cons_succ]
              refine B_takeD 41 36 (i := 7) (v := .pointer (some (bd.add (i * 4)))) rfl rfl (by kernel_rfl) (fun _ _ _ h => h) (by kernel_rfl) (fun w' hSw => ?_) hS0 ?_
              · obtain ⟨hs1, hs2, hs3, hs4, hs5, hs6⟩ := hSw; go_simp
              simp only [List.setIfInBounds_toArray, List.set_cons_zero, List.set_cons_succ]
              refine B_takeD 41 37 (i := 8) (v := .pointer (some (bd.add (i * 4)))) rfl rfl (by kernel_rfl) (fun _ _ _ h => h) (by kernel_rfl) (fun w' hSw => ?_) hS0 ?_
              · obtain ⟨hs1, hs2, hs3, hs4, hs5, hs6⟩ := hSw; go_simp
              simp only [List.setIfInBounds_toArray, List.set_cons_zero, List.set_cons_succ]
              refine B_takeD 41 38 (i := 9) (v := .bool x.deep) rfl rfl (by kernel_rfl) (fun _ _ _ h => h) (by kernel_rfl) (fun w' hSw => ?_) hS0 ?_
              · obtain ⟨hs1, hs2, hs3, hs4, hs5, hs6⟩ := hSw; go_simp
              simp only [List.setIfInBounds_toArray, List.set_cons_zero, List.set_cons_succ]
              refine B_takeD 41 39 (i := 10) (v := .bool false) rfl rfl (by kernel_rfl) (fun _ _ _ h => h) (by kernel_rfl) (fun w' hSw => ?_) hS0 ?_
              · obtain ⟨hs1, hs2, hs3, hs4, hs5, hs6⟩ := hSw; go_simp
              simp only [List.setIfInBounds_toArray, List.set_cons_zero, List.set_cons_succ]
              refine B_takeD 41 40 (i := 11) (v := .bool false) rfl rfl (by kernel_rfl) (fun _ _ _ h => h) (by kernel_rfl) (fun w' hSw => ?_) hS0 ?_
              · obtain ⟨hs1, hs2, hs3, hs4, hs5, hs6⟩ := hSw; go_simp
              simp only [List.setIfInBounds_toArray, List.set_cons_zero, List.set_cons_succ]
              refine B_takeD 41 41 (i := 12) (v := .slice (some ad) xs.length c) rfl rfl (by kernel_rfl) (fun _ _ _ h => h) (by kernel_rfl) (fun w' hSw => ?_) hS0 ?_
              · obtain ⟨hs1, hs2, hs3, hs4, hs5, hs6⟩ := hSw; go_simp
              simp only [List.setIfInBounds_toArray, List.set_cons_zero, List.set_cons_succ]
              refine B_takeD 41 42 (i := 13) (v := .int .i64 i) rfl rfl (by kernel_rfl) (fun _ _ _ h => h) (by kernel_rfl) (fun w' hSw => ?_) hS0 ?_
              · obtain ⟨hs1, hs2, hs3, hs4, hs5, hs6⟩ := hSw; go_simp
              simp only [List.setIfInBounds_toArray, List.set_cons_zero, List.set_cons_succ]
              refine B_takeD 41 43 (i := 14) (v := .pointer (some (ad.add (i * 4)))) rfl rfl (by kernel_rfl) (fun _ _ _ h => h) (by kernel_rfl) (fun w' hSw => ?_) hS0 ?_
              · obtain ⟨hs1, hs2, hs3, hs4, hs5, hs6⟩ := hSw; go_simp
              simp only [List.setIfInBounds_toArray, List.set_cons_zero, List.set_cons_succ]
              refine B_takeD 41 44 (i := 15) (v := .pointer (some ⟨(ad.add (i * 4)).block, (ad.add (i * 4)).off + 1, none⟩)) rfl rfl (by kernel_rfl) (fun _ _ _ h => h) (by kernel_rfl) (fun w' hSw => ?_) hS0 ?_
              · obtain ⟨hs1, hs2, hs3, hs4, hs5, hs6⟩ := hSw; go_simp
              simp only [List.setIfInBounds_toArray, List.set_cons_zero, List.set_cons_succ]
              refine B_takeD 41 45 (i := 16) (v := .int .i64 x.axis) rfl rfl (by kernel_rfl) (fun _ _ _ h => h) (by kernel_rfl) (fun w' hSw => ?_) hS0 ?_
              · obtain ⟨hs1, hs2, hs3, hs4, hs5, hs6⟩ := hSw; go_simp
              simp only [List.setIfInBounds_toArray, List.set_cons_zero, List.set_cons_succ]
              refine B_takeD 41 46 (i := 17) (v := .slice (some bd) xs.length d) rfl rfl (by kernel_rfl) (fun _ _ _ h => h) (by kernel_rfl) (fun w' hSw => ?_) hS0 ?_
              · obtain ⟨hs1, hs2, hs3, hs4, hs5, hs6⟩ := hSw; go_simp
              simp only [List.setIfInBounds_toArray, List.set_cons_zero, List.set_cons_succ]
              refine B_takeD 41 47 (i := 18) (v := .int .i64 i) rfl rfl (by kernel_rfl) (fun _ _ _ h => h) (by kernel_rfl) (fun w' hSw => ?_) hS0 ?_
              · obtain ⟨hs1, hs2, hs3, hs4, hs5, hs6⟩ := hSw; go_simp
              simp only [List.setIfInBounds_toArray, List.set_cons_zero, List.set_cons_succ]
              refine B_takeD 41 48 (i := 19) (v := .pointer (some (bd.add (i * 4)))) rfl rfl (by kernel_rfl) (fun _ _ _ h => h) (by kernel_rfl) (fun w' hSw => ?_) hS0 ?_
              · obtain ⟨hs1, hs2, hs3, hs4, hs5, hs6⟩ := hSw; go_simp
              simp only [List.setIfInBounds_toArray, List.set_cons_zero, List.set_cons_succ]
              refine B_takeD 41 49 (i := 20) (v := .pointer (some ⟨(bd.add (i * 4)).block, (bd.add (i * 4)).off + 1, none⟩)) rfl rfl (by kernel_rfl) (fun _ _ _ h => h) (by kernel_rfl) (fun w' hSw => ?_) hS0 ?_
              · obtain ⟨hs1, hs2, hs3, hs4, hs5, hs6⟩ := hSw; go_simp
              simp only [List.setIfInBounds_toArray, List.set_cons_zero, List.set_cons_succ]
              refine B_takeD 41 50 (i := 21) (v := .int .i64 x.axis) rfl rfl (by kernel_rfl) (fun _ _ _ h => h) (by kernel_rfl) (fun w' hSw => ?_) hS0 ?_
              · obtain ⟨hs1, hs2, hs3, hs4, hs5, hs6⟩ := hSw; go_simp
              simp only [List.setIfInBounds_toArray, List.set_cons_zero, List.set_cons_succ]
              refine B_takeD 41 51 (i := 22) (v := .bool false) rfl rfl (by kernel_rfl) (fun _ _ _ h => h) (by kernel_rfl) (fun w' hSw => ?_) hS0 ?_
              · obtain ⟨hs1, hs2, hs3, hs4, hs5, hs6⟩ := hSw; go_simp
              simp only [List.setIfInBounds_toArray, List.set_cons_zero, List.set_cons_succ]
              refine B_takeD 41 52 (i := 23) (v := .bool false) rfl rfl (by kernel_rfl) (fun _ _ _ h => h) (by kernel_rfl) (fun w' hSw => ?_) hS0 ?_
              · obtain ⟨hs1, hs2, hs3, hs4, hs5, hs6⟩ := hSw; go_simp
              simp only [List.setIfInBounds_toArray, List.set_cons_zero, List.set_cons_succ]
              refine B_takeD 41 53 (i := 24) (v := .bool false) rfl rfl (by kernel_rfl) (fun _ _ _ h => h) (by kernel_rfl) (fun w' hSw => ?_) hS0 ?_
              · obtain ⟨hs1, hs2, hs3, hs4, hs5, hs6⟩ := hSw; go_simp
              simp only [List.setIfInBounds_toArray, List.set_cons_zero, List.set_cons_succ]
              refine B_takeD 41 54 (i := 25) (v := .slice (some ad) xs.length c) rfl rfl (by kernel_rfl) (fun _ _ _ h => h) (by kernel_rfl) (fun w' hSw => ?_) hS0 ?_
              · obtain ⟨hs1, hs2, hs3, hs4, hs5, hs6⟩ := hSw; go_simp
              simp only [List.setIfInBounds_toArray, List.set_cons_zero, List.set_cons_succ]
              refine B_takeD 41 55 (i := 26) (v := .int .i64 i) rfl rfl (by kernel_rfl) (fun _ _ _ h => h) (by kernel_rfl) (fun w' hSw => ?_) hS0 ?_
              · obtain ⟨hs1, hs2, hs3, hs4, hs5, hs6⟩ := hSw; go_simp
              simp only [List.setIfInBounds_toArray, List.set_cons_zero, List.set_cons_succ]
              refine B_takeD 41 56 (i := 27) (v := .pointer (some (ad.add (i * 4)))) rfl rfl (by kernel_rfl) (fun _ _ _ h => h) (by kernel_rfl) (fun w' hSw => ?_) hS0 ?_
              · obtain ⟨hs1, hs2, hs3, hs4, hs5, hs6⟩ := hSw; go_simp
              simp only [List.setIfInBounds_toArray, List.set_cons_zero, List.set_cons_succ]
              refine B_takeD 41 57 (i := 28) (v := .pointer (some ⟨(ad.add (i * 4)).block, (ad.add (i * 4)).off + 2, none⟩)) rfl rfl (by kernel_rfl) (fun _ _ _ h => h) (by kernel_rfl) (fun w' hSw => ?_) hS0 ?_
              · obtain ⟨hs1, hs2, hs3, hs4, hs5, hs6⟩ := hSw; go_simp
              simp only [List.setIfInBounds_toArray, List.set_cons_zero, List.set_cons_succ]
              refine B_takeD 41 58 (i := 29) (v := .string x.name) rfl rfl (by kernel_rfl) (fun _ _ _ h => h) (by kernel_rfl) (fun w' hSw => ?_) hS0 ?_
              · obtain ⟨hs1, hs2, hs3, hs4, hs5, hs6⟩ := hSw; go_simp
              simp only [List.setIfInBounds_toArray, List.set_cons_zero, List.set_cons_succ]
              refine B_takeD 41 59 (i := 30) (v := .slice (some bd) xs.length d) rfl rfl (by kernel_rfl) (fun _ _ _ h => h) (by kernel_rfl) (fun w' hSw => ?_) hS0 ?_
              · obtain ⟨hs1, hs2, hs3, hs4, hs5, hs6⟩ := hSw; go_simp
              simp only [List.setIfInBounds_toArray, List.set_cons_zero, List.set_cons_succ]
              refine B_takeD 41 60 (i := 31) (v := .int .i64 i) rfl rfl (by kernel_rfl) (fun _ _ _ h => h) (by kernel_rfl) (fun w' hSw => ?_) hS0 ?_
              · obtain ⟨hs1, hs2, hs3, hs4, hs5, hs6⟩ := hSw; go_simp
              simp only [List.setIfInBounds_toArray, List.set_cons_zero, List.set_cons_succ]
              refine B_takeD 41 61 (i := 32) (v := .pointer (some (bd.add (i * 4)))) rfl rfl (by kernel_rfl) (fun _ _ _ h => h) (by kernel_rfl) (fun w' hSw => ?_) hS0 ?_
              · obtain ⟨hs1, hs2, hs3, hs4, hs5, hs6⟩ := hSw; go_simp
              simp only [List.setIfInBounds_toArray, List.set_cons_zero, List.set_cons_succ]
              refine B_takeD 41 62 (i := 33) (v := .pointer (some ⟨(bd.add (i * 4)).block, (bd.add (i * 4)).off + 2, none⟩)) rfl rfl (by kernel_rfl) (fun _ _ _ h => h) (by kernel_rfl) (fun w' hSw => ?_) hS0 ?_
              · obtain ⟨hs1, hs2, hs3, hs4, hs5, hs6⟩ := hSw; go_simp
              simp only [List.setIfInBounds_toArray, List.set_cons_zero, List.set_cons_succ]
              refine B_takeD 41 63 (i := 34) (v := .string y.name) rfl rfl (by kernel_rfl) (fun _ _ _ h => h) (by kernel_rfl) (fun w' hSw => ?_) hS0 ?_
              · obtain ⟨hs1, hs2, hs3, hs4, hs5, hs6⟩ := hSw; go_simp
              simp only [List.setIfInBounds_toArray, List.set_cons_zero, List.set_cons_succ]
              refine B_takeD 41 64 (i := 35) (v := .bool true) rfl rfl (by kernel_rfl) (fun _ _ _ h => h) (by kernel_rfl) (fun w' hSw => ?_) hS0 ?_
              · obtain ⟨hs1, hs2, hs3, hs4, hs5, hs6⟩ := hSw; go_simp
              simp only [List.setIfInBounds_toArray, List.set_cons_zero, List.set_cons_succ]
              refine B_takeD 41 65 (i := 36) (v := .bool true) rfl rfl (by kernel_rfl) (fun _ _ _ h => h) (by kernel_rfl) (fun w' hSw => ?_) hS0 ?_
              · obtain ⟨hs1, hs2, hs3, hs4, hs5, hs6⟩ := hSw; go_simp
              simp only [List.setIfInBounds_toArray, List.set_cons_zero, List.set_cons_succ]
              refine B_takeD 41 66 (i := 37) (v := .bool true) rfl rfl (by kernel_rfl) (fun _ _ _ h => h) (by kernel_rfl) (fun w' hSw => ?_) hS0 ?_
              · obtain ⟨hs1, hs2, hs3, hs4, hs5, hs6⟩ := hSw; go_simp
              simp only [List.setIfInBounds_toArray, List.set_cons_zero, List.set_cons_succ]
              refine B_skipD 41 67 (i := 38) rfl rfl (by kernel_rfl) (fun _ _ _ h => h) (by kernel_rfl) hS0 ?_
              simp only [List.setIfInBounds_toArray, List.set_cons_zero, List.set_cons_succ]
              refine B_skipD 41 68 (i := 39) rfl rfl (by kernel_rfl) (fun _ _ _ h => h) (by kernel_rfl) hS0 ?_
              simp only [List.setIfInBounds_toArray, List.set_cons_zero, List.set_cons_succ]
              refine B_takeD 41 69 (i := 40) (v := .bool true) rfl rfl (by kernel_rfl) (fun _ _ _ h => h) (by kernel_rfl) (fun w' hSw => ?_) hS0 ?_
              · obtain ⟨hs1, hs2, hs3, hs4, hs5, hs6⟩ := hSw; go_simp
              simp only [List.setIfInBounds_toArray, List.set_cons_zero, List.set_cons_succ]
              refine ⟨by kernel_rfl, ?_⟩
              clear hS0 x0' x1' x2' y0' y1' y2'
              go_wp2
              go_ret
              exact ⟨congrArg (fun x => Ending.returned (Value.bool x)) HNO.out.symm, below_step HB9.out (below_drew (Below.refl _ _))⟩
          · have HNO : Aside0 (eqB xs ys = false) := ⟨HNE.out (fun e => d1 (by rw [e]))⟩
            go_upto_region 7 with fail
            refine B_region (fun w' => w'.cell? (ad.add (i * 4)) = some (.bool x.deep) ∧ w'.cell? ⟨(ad.add (i * 4)).block, (ad.add (i * 4)).off + 1, none⟩ = some (.int .i64 x.axis) ∧ w'.cell? ⟨(ad.add (i * 4)).block, (ad.add (i * 4)).off + 2, none⟩ = some (.string x.name) ∧ w'.cell? (bd.add (i * 4)) = some (.bool x.deep) ∧ w'.cell? ⟨(bd.add (i * 4)).block, (bd.add (i * 4)).off + 1, none⟩ = some (.int .i64 y.axis) ∧ w'.cell? ⟨(bd.add (i * 4)).block, (bd.add (i * 4)).off + 2, none⟩ = some (.string y.name)) 41 (by kernel_rfl) ⟨x0', x1', x2', y0', y1', y2'⟩ (fun hS0 => ?_)
            refine B_takeD 41 29 (i := 0) (v := .slice (some ad) xs.length c) rfl rfl (by kernel_rfl) (fun _ _ _ h => h) (by kernel_rfl) (fun w' hSw => ?_) hS0 ?_
            · obtain ⟨hs1, hs2, hs3, hs4, hs5, hs6⟩ := hSw; go_simp
            simp only [List.setIfInBounds_toArray, List.set_cons_zero, List.set_cons_succ]
            refine B_takeD 41 30 (i := 1) (v := .int .i64 i) rfl rfl (by kernel_rfl) (fun _ _ _ h => h) (by kernel_rfl) (fun w' hSw => ?_) hS0 ?_
            · obtain ⟨hs1, hs2, hs3, hs4, hs5, hs6⟩ := hSw; go_simp
            simp only [List.setIfInBounds_toArray, List.set_cons_zero, List.set_cons_succ]
            refine B_takeD 41 31 (i := 2) (v := .pointer (some (ad.add (i * 4)))) rfl rfl (by kernel_rfl) (fun _ _ _ h => h) (by kernel_rfl) (fun w' hSw => ?_) hS0 ?_
            · obtain ⟨hs1, hs2, hs3, hs4, hs5, hs6⟩ := hSw; go_simp
            simp only [List.setIfInBounds_toArray, List.set_cons_zero, List.set_cons_succ]
            refine B_takeD 41 32 (i := 3) (v := .pointer (some (ad.add (i * 4)))) rfl rfl (by kernel_rfl) (fun _ _ _ h => h) (by kernel_rfl) (fun w' hSw => ?_) hS0 ?_
            · obtain ⟨hs1, hs2, hs3, hs4, hs5, hs6⟩ := hSw; go_simp
            simp only [List.setIfInBounds_toArray, List.set_cons_zero, List.set_cons_succ]
            refine B_takeD 41 33 (i := 4) (v := .bool x.deep) rfl rfl (by kernel_rfl) (fun _ _ _ h => h) (by kernel_rfl) (fun w' hSw => ?_) hS0 ?_
            · obtain ⟨hs1, hs2, hs3, hs4, hs5, hs6⟩ := hSw; go_simp
            simp only [List.setIfInBounds_toArray, List.set_cons_zero, List.set_cons_succ]
            refine B_takeD 41 34 (i := 5) (v := .slice (some bd) xs.length d) rfl rfl (by kernel_rfl) (fun _ _ _ h => h) (by kernel_rfl) (fun w' hSw => ?_) hS0 ?_
            · obtain ⟨hs1, hs2, hs3, hs4, hs5, hs6⟩ := hSw; go_simp
            simp only [List.setIfInBounds_toArray, List.set_cons_zero, List.set_cons_succ]
            refine B_takeD 41 35 (i := 6) (v := .int .i64 i) rfl rfl (by kernel_rfl) (fun _ _ _ h => h) (by kernel_rfl) (fun w' hSw => ?_) hS0 ?_
            · obtain ⟨hs1, hs2, hs3, hs4, hs5, hs6⟩ := hSw; go_simp
            simp only [List.setIfInBounds_toArray, List.set_cons_zero, List.set_cons_succ]
            refine B_takeD 41 36 (i := 7) (v := .pointer (some (bd.add (i * 4)))) rfl rfl (by kernel_rfl) (fun _ _ _ h => h) (by kernel_rfl) (fun w' hSw => ?_) hS0 ?_
            · obtain ⟨hs1, hs2, hs3, hs4, hs5, hs6⟩ := hSw; go_simp
            simp only [List.setIfInBounds_toArray, List.set_cons_zero, List.set_cons_succ]
            refine B_takeD 41 37 (i := 8) (v := .pointer (some (bd.add (i * 4)))) rfl rfl (by kernel_rfl) (fun _ _ _ h => h) (by kernel_rfl) (fun w' hSw => ?_) hS0 ?_
            · obtain ⟨hs1, hs2, hs3, hs4, hs5, hs6⟩ := hSw; go_simp
            simp only [List.setIfInBounds_toArray, List.set_cons_zero, List.set_cons_succ]
            refine B_takeD 41 38 (i := 9) (v := .bool x.deep) rfl rfl (by kernel_rfl) (fun _ _ _ h => h) (by kernel_rfl) (fun w' hSw => ?_) hS0 ?_
            · obtain ⟨hs1, hs2, hs3, hs4, hs5, hs6⟩ := hSw; go_simp
            simp only [List.setIfInBounds_toArray, List.set_cons_zero, List.set_cons_succ]
            refine B_takeD 41 39 (i := 10) (v := .bool false) rfl rfl (by kernel_rfl) (fun _ _ _ h => h) (by kernel_rfl) (fun w' hSw => ?_) hS0 ?_
            · obtain ⟨hs1, hs2, hs3, hs4, hs5, hs6⟩ := hSw; go_simp
            simp only [List.setIfInBounds_toArray, List.set_cons_zero, List.set_cons_succ]
            refine B_takeD 41 40 (i := 11) (v := .bool false) rfl rfl (by kernel_rfl) (fun _ _ _ h => h) (by kernel_rfl) (fun w' hSw => ?_) hS0 ?_
            · obtain ⟨hs1, hs2, hs3, hs4, hs5, hs6⟩ := hSw; go_simp
            simp only [List.setIfInBounds_toArray, List.set_cons_zero, List.set_cons_succ]
            refine B_takeD 41 41 (i := 12) (v := .slice (some ad) xs.length c) rfl rfl (by kernel_rfl) (fun _ _ _ h => h) (by kernel_rfl) (fun w' hSw => ?_) hS0 ?_
            · obtain ⟨hs1, hs2, hs3, hs4, hs5, hs6⟩ := hSw; go_simp
            simp only [List.setIfInBounds_toArray, List.set_cons_zero, List.set_cons_succ]
            refine B_takeD 41 42 (i := 13) (v := .int .i64 i) rfl rfl (by kernel_rfl) (fun _ _ _ h => h) (by kernel_rfl) (fun w' hSw => ?_) hS0 ?_
            · obtain ⟨hs1, hs2, hs3, hs4, hs5, hs6⟩ := hSw; go_simp
            simp only [List.setIfInBounds_toArray, List.set_cons_zero, List.set_cons_succ]
            refine B_takeD 41 43 (i := 14) (v := .pointer (some (ad.add (i * 4)))) rfl rfl (by kernel_rfl) (fun _ _ _ h => h) (by kernel_rfl) (fun w' hSw => ?_) hS0 ?_
            · obtain ⟨hs1, hs2, hs3, hs4, hs5, hs6⟩ := hSw; go_simp
            simp only [List.setIfInBounds_toArray, List.set_cons_zero, List.set_cons_succ]
            refine B_takeD 41 44 (i := 15) (v := .pointer (some ⟨(ad.add (i * 4)).block, (ad.add (i * 4)).off + 1, none⟩)) rfl rfl (by kernel_rfl) (fun _ _ _ h => h) (by kernel_rfl) (fun w' hSw => ?_) hS0 ?_
            · obtain ⟨hs1, hs2, hs3, hs4, hs5, hs6⟩ := hSw; go_simp
            simp only [List.setIfInBounds_toArray, List.set_cons_zero, List.set_cons_succ]
            refine B_takeD 41 45 (i := 16) (v := .int .i64 x.axis) rfl rfl (by kernel_rfl) (fun _ _ _ h => h) (by kernel_rfl) (fun w' hSw => ?_) hS0 ?_
            · obtain ⟨hs1, hs2, hs3, hs4, hs5, hs6⟩ := hSw; go_simp
            simp only [List.setIfInBounds_toArray, List.set_cons_zero, List.set_cons_succ]
            refine B_takeD 41 46 (i := 17) (v := .slice (some bd) xs.length d) rfl rfl (by kernel_rfl) (fun _ _ _ h => h) (by kernel_rfl) (fun w' hSw => ?_) hS0 ?_
            · obtain ⟨hs1, hs2, hs3, hs4, hs5, hs6⟩ := hSw; go_simp
            simp only [List.setIfInBounds_toArray, List.set_cons_zero, List.set_cons_succ]
            refine B_takeD 41 47 (i := 18) (v := .int .i64 i) rfl rfl (by kernel_rfl) (fun _ _ _ h => h) (by kernel_rfl) (fun w' hSw => ?_) hS0 ?_
            · obtain ⟨hs1, hs2, hs3, hs4, hs5, hs6⟩ := hSw; go_simp
            simp only [List.setIfInBounds_toArray, List.set_cons_zero, List.set_cons_succ]
            refine B_takeD 41 48 (i := 19) (v := .pointer (some (bd.add (i * 4)))) rfl rfl (by kernel_rfl) (fun _ _ _ h => h) (by kernel_rfl) (fun w' hSw => ?_) hS0 ?_
            · obtain ⟨hs1, hs2, hs3, hs4, hs5, hs6⟩ := hSw; go_simp
            simp only [List.setIfInBounds_toArray, List.set_cons_zero, List.set_cons_succ]
            refine B_takeD 41 49 (i := 20) (v := .pointer (some ⟨(bd.add (i * 4)).block, (bd.add (i * 4)).off + 1, none⟩)) rfl rfl (by kernel_rfl) (fun _ _ _ h => h) (by kernel_rfl) (fun w' hSw => ?_) hS0 ?_
            · obtain ⟨hs1, hs2, hs3, hs4, hs5, hs6⟩ := hSw; go_simp
            simp only [List.setIfInBounds_toArray, List.set_cons_zero, List.set_cons_succ]
            refine B_takeD 41 50 (i := 21) (v := .int .i64 y.axis) rfl rfl (by kernel_rfl) (fun _ _ _ h => h) (by kernel_rfl) (fun w' hSw => ?_) hS0 ?_
            · obtain ⟨hs1, hs2, hs3, hs4, hs5, hs6⟩ := hSw; go_simp
            simp only [List.setIfInBounds_toArray, List.set_cons_zero, List.set_cons_succ]
            refine B_takeD 41 51 (i := 22) (v := .bool true) rfl rfl (by kernel_rfl) (fun _ _ _ h => h) (by kernel_rfl) (fun w' hSw => ?_) hS0 ?_
            · obtain ⟨hs1, hs2, hs3, hs4, hs5, hs6⟩ := hSw; go_simp
            simp only [List.setIfInBounds_toArray, List.set_cons_zero, List.set_cons_succ]
            refine B_takeD 41 52 (i := 23) (v := .bool true) rfl rfl (by kernel_rfl) (fun _ _ _ h => h) (by kernel_rfl) (fun w' hSw => ?_) hS0 ?_
            · obtain ⟨hs1, hs2, hs3, hs4, hs5, hs6⟩ := hSw; go_simp
            simp only [List.setIfInBounds_toArray, List.set_cons_zero, List.set_cons_succ]
            refine B_takeD 41 53 (i := 24) (v := .bool true) rfl rfl (by kernel_rfl) (fun _ _ _ h => h) (by kernel_rfl) (fun w' hSw => ?_) hS0 ?_
            · obtain ⟨hs1, hs2, hs3, hs4, hs5, hs6⟩ := hSw; go_simp
            simp only [List.setIfInBounds_toArray, List.set_cons_zero, List.set_cons_succ]
            refine B_skipD 41 54 (i := 25) rfl rfl (by kernel_rfl) (fun _ _ _ h => h) (by kernel_rfl) hS0 ?_
            simp only [List.setIfInBounds_toArray, List.set_cons_zero, List.set_cons_succ]
            refine B_skipD 41 55 (i := 26) rfl rfl (by kernel_rfl) (fun _ _ _ h => h) (by kernel_rfl) hS0 ?_
            simp only [List.setIfInBounds_toArray, List.set_cons_zero, List.set_cons_succ]
            refine B_skipD 41 56 (i := 27) rfl rfl (by kernel_rfl) (fun _ _ _ h => h) (by kernel_rfl) hS0 ?_
            simp only [List.setIfInBounds_toArray, List.set_cons_zero, List.set_cons_succ]
            refine B_skipD 41 57 (i := 28) rfl rfl (by kernel_rfl) (fun _ _ _ h => h) (by kernel_rfl) hS0 ?_
            simp only [List.setIfInBounds_toArray, List.set_cons_zero, List.set_cons_succ]
            refine B_skipD 41 58 (i := 29) rfl rfl (by kernel_rfl) (fun _ _ _ h => h) (by kernel_rfl) hS0 ?_
            simp only [List.setIfInBounds_toArray, List.set_cons_zero, List.set_cons_succ]
            refine B_skipD 41 59 (i := 30) rfl rfl (by kernel_rfl) (fun _ _ _ h => h) (by kernel_rfl) hS0 ?_
            simp only [List.setIfInBounds_toArray, List.set_cons_zero, List.set_cons_succ]
            refine B_skipD 41 60 (i := 31) rfl rfl (by kernel_rfl) (fun _ _ _ h => h) (by kernel_rfl) hS0 ?_
            simp only [List.setIfInBounds_toArray, List.set_cons_zero, List.set_cons_succ]
            refine B_skipD 41 61 (i := 32) rfl rfl (by kernel_rfl) (fun _ _ _ h => h) (by kernel_rfl) hS0 ?_
            simp only [List.setIfInBounds_toArray, List.set_cons_zero, List.set_cons_succ]
            refine B_skipD 41 62 (i := 33) rfl rfl (by kernel_rfl) (fun _ _ _ h => h) (by kernel_rfl) hS0 ?_
            simp only [List.setIfInBounds_toArray, List.set_cons_zero, List.set_cons_succ]
            refine B_skipD 41 63 (i := 34) rfl rfl (by kernel_rfl) (fun _ _ _ h => h) (by kernel_rfl) hS0 ?_
            simp only [List.setIfInBounds_toArray, List.set_cons_zero, List.set_cons_succ]
            refine B_skipD 41 64 (i := 35) rfl rfl (by kernel_rfl) (fun _ _ _ h => h) (by kernel_rfl) hS0 ?_
            simp only [List.setIfInBounds_toArray, List.set_cons_zero, List.set_cons_succ]
            refine B_takeD 41 65 (i := 36) (v := .bool true) rfl rfl (by kernel_rfl) (fun _ _ _ h => h) (by kernel_rfl) (fun w' hSw => ?_) hS0 ?_
            · obtain ⟨hs1, hs2, hs3, hs4, hs5, hs6⟩ := hSw; go_simp
            simp only [List.setIfInBounds_toArray, List.set_cons_zero, List.set_cons_succ]
            refine B_takeD 41 66 (i := 37) (v := .bool true) rfl rfl (by kernel_rfl) (fun _ _ _ h => h) (by kernel_rfl) (fun w' hSw => ?_) hS0 ?_
            · obtain ⟨hs1, hs2, hs3, hs4, hs5, hs6⟩ := hSw; go_simp
            simp only [List.setIfInBounds_toArray, List.set_cons_zero, List.set_cons_succ]
            refine B_skipD 41 67 (i := 38) rfl rfl (by kernel_rfl) (fun _ _ _ h => h) (by kernel_rfl) hS0 ?_
            simp only [List.setIfInBounds_toArray, List.set_cons_zero, List.set_cons_succ]
            refine B_skipD 41 68 (i := 39) rfl rfl (by kernel_rfl) (fun _ _ _ h => h) (by kernel_rfl) hS0 ?_
            simp only [List.setIfInBounds_toArray, List.set_cons_zero, List.set_cons_succ]
            refine B_takeD 41 69 (i := 40) (v := .bool true) rfl rfl (by kernel_rfl) (fun _ _ _ h => h) (by kernel_rfl) (fun w' hSw => ?_) hS0 ?_
            · obtain ⟨hs1, hs2, hs3, hs4, hs5, hs6⟩ := hSw; go_simp
            simp only [List.setIfInBounds_toArray, List.set_cons_zero, List.set_cons_succ]
            refine ⟨by kernel_rfl, ?_⟩
            clear hS0 x0' x1' x2' y0' y1' y2'
            go_wp2
            go_ret
            exact ⟨congrArg (fun x => Ending.returned (Value.bool x)) HNO.out.symm, below_step HB9.out (below_drew (Below.refl _ _))⟩
        · have d0' : (x.deep != y.deep) = true := by simpa using d0
          have HNO : Aside0 (eqB xs ys = false) := ⟨HNE.out (fun e => d0 (by rw [e]))⟩
          go_upto_region 7 with fail
          refine B_region (fun w' => w'.cell? (ad.add (i * 4)) = some (.bool x.deep) ∧ w'.cell? ⟨(ad.add (i * 4)).block, (ad.add (i * 4)).off + 1, none⟩ = some (.int .i64 x.axis) ∧ w'.cell? ⟨(ad.add (i * 4)).block, (ad.add (i * 4)).off + 2, none⟩ = some (.string x.name) ∧ w'.cell? (bd.add (i * 4)) = some (.bool y.deep) ∧ w'.cell? ⟨(bd.add (i * 4)).block, (bd.add (i * 4)).off + 1, none⟩ = some (.int .i64 y.axis) ∧ w'.cell? ⟨(bd.add (i * 4)).block, (bd.add (i * 4)).off + 2, none⟩ = some (.string y.name)) 41 (by kernel_rfl) ⟨x0', x1', x2', y0', y1', y2'⟩ (fun hS0 => ?_)
          refine B_takeD 41 29 (i := 0) (v := .slice (some ad) xs.length c) rfl rfl (by kernel_rfl) (fun _ _ _ h => h) (by kernel_rfl) (fun w' hSw => ?_) hS0 ?_
          · obtain ⟨hs1, hs2, hs3, hs4, hs5, hs6⟩ := hSw; go_simp
          simp only [List.setIfInBounds_toArray, List.set_cons_zero, List.set_cons_succ]
          refine B_takeD 41 30 (i := 1) (v := .int .i64 i) rfl rfl (by kernel_rfl) (fun _ _ _ h => h) (by kernel_rfl) (fun w' hSw => ?_) hS0 ?_
          · obtain ⟨hs1, hs2, hs3, hs4, hs5, hs6⟩ := hSw; go_simp
          simp only [List.setIfInBounds_toArray, List.set_cons_zero, List.set_cons_succ]
          refine B_takeD 41 31 (i := 2) (v := .pointer (some (ad.add (i * 4)))) rfl rfl (by kernel_rfl) (fun _ _ _ h => h) (by kernel_rfl) (fun w' hSw => ?_) hS0 ?_
          · obtain ⟨hs1, hs2, hs3, hs4, hs5, hs6⟩ := hSw; go_simp
          simp only [List.setIfInBounds_toArray, List.set_cons_zero, List.set_cons_succ]
          refine B_takeD 41 32 (i := 3) (v := .pointer (some (ad.add (i * 4)))) rfl rfl (by kernel_rfl) (fun _ _ _ h => h) (by kernel_rfl) (fun w' hSw => ?_) hS0 ?_
          · obtain ⟨hs1, hs2, hs3, hs4, hs5, hs6⟩ := hSw; go_simp
          simp only [List.setIfInBounds_toArray, List.set_cons_zero, List.set_cons_succ]
          refine B_takeD 41 33 (i := 4) (v := .bool x.deep) rfl rfl (by kernel_rfl) (fun _ _ _ h => h) (by kernel_rfl) (fun w' hSw => ?_) hS0 ?_
          · obtain ⟨hs1, hs2, hs3, hs4, hs5, hs6⟩ := hSw; go_simp
          simp only [List.setIfInBounds_toArray, List.set_cons_zero, List.set_cons_succ]
          refine B_takeD 41 34 (i := 5) (v := .slice (some bd) xs.length d) rfl rfl (by kernel_rfl) (fun _ _ _ h => h) (by kernel_rfl) (fun w' hSw => ?_) hS0 ?_
          · obtain ⟨hs1, hs2, hs3, hs4, hs5, hs6⟩ := hSw; go_simp
          simp only [List.setIfInBounds_toArray, List.set_cons_zero, List.set_cons_succ]
          refine B_takeD 41 35 (i := 6) (v := .int .i64 i) rfl rfl (by kernel_rfl) (fun _ _ _ h => h) (by kernel_rfl) (fun w' hSw => ?_) hS0 ?_
          · obtain ⟨hs1, hs2, hs3, hs4, hs5, hs6⟩ := hSw; go_simp
          simp only [List.setIfInBounds_toArray, List.set_cons_zero, List.set_cons_succ]
          refine B_takeD 41 36 (i := 7) (v := .pointer (some (bd.add (i * 4)))) rfl rfl (by kernel_rfl) (fun _ _ _ h => h) (by kernel_rfl) (fun w' hSw => ?_) hS0 ?_
          · obtain ⟨hs1, hs2, hs3, hs4, hs5, hs6⟩ := hSw; go_simp
          simp only [List.setIfInBounds_toArray, List.set_cons_zero, List.set_cons_succ]
          refine B_takeD 41 37 (i := 8) (v := .pointer (some (bd.add (i * 4)))) rfl rfl (by kernel_rfl) (fun _ _ _ h => h) (by kernel_rfl) (fun w' hSw => ?_) hS0 ?_
          · obtain ⟨hs1, hs2, hs3, hs4, hs5, hs6⟩ := hSw; go_simp
          simp only [List.setIfInBounds_toArray, List.set_cons_zero, List.set_cons_succ]
          refine B_takeD 41 38 (i := 9) (v := .bool y.deep) rfl rfl (by kernel_rfl) (fun _ _ _ h => h) (by kernel_rfl) (fun w' hSw => ?_) hS0 ?_
          · obtain ⟨hs1, hs2, hs3, hs4, hs5, hs6⟩ := hSw; go_simp
          simp only [List.setIfInBounds_toArray, List.set_cons_zero, List.set_cons_succ]
          refine B_takeD 41 39 (i := 10) (v := .bool true) rfl rfl (by kernel_rfl) (fun _ _ _ h => h) (by kernel_rfl) (fun w' hSw => ?_) hS0 ?_
          · obtain ⟨hs1, hs2, hs3, hs4, hs5, hs6⟩ := hSw; go_simp
          simp only [List.setIfInBounds_toArray, List.set_cons_zero, List.set_cons_succ]
          refine B_takeD 41 40 (i := 11) (v := .bool true) rfl rfl (by kernel_rfl) (fun _ _ _ h => h) (by kernel_rfl) (fun w' hSw => ?_) hS0 ?_
          · obtain ⟨hs1, hs2, hs3, hs4, hs5, hs6⟩ := hSw; go_simp
          simp only [List.setIfInBounds_toArray, List.set_cons_zero, List.set_cons_succ]
          refine B_skipD 41 41 (i := 12) rfl rfl (by kernel_rfl) (fun _ _ _ h => h) (by kernel_rfl) hS0 ?_
          simp only [List.setIfInBounds_toArray, List.set_cons_zero, List.set_cons_succ]
          refine B_skipD 41 42 (i := 13) rfl rfl (by kernel_rfl) (fun _ _ _ h => h) (by kernel_rfl) hS0 ?_
          simp only [List.setIfInBounds_toArray, List.set_cons_zero, List.set_cons_succ]
          refine B_skipD 41 43 (i := 14) rfl rfl (by kernel_rfl) (fun _ _ _ h => h) (by kernel_rfl) hS0 ?_
          simp only [List.setIfInBounds_toArray, List.set_cons_zero, List.set_cons_succ]
          refine B_skipD 41 44 (i := 15) rfl rfl (by kernel_rfl) (fun _ _ _ h => h) (by kernel_rfl) hS0 ?_
          simp only [List.setIfInBounds_toArray, List.set_cons_zero, List.set_cons_succ]
          refine B_skipD 41 45 (i := 16) rfl rfl (by kernel_rfl) (fun _ _ _ h => h) (by kernel_rfl) hS0 ?_
          simp only [List.setIfInBounds_toArray, List.set_cons_zero, List.set_cons_succ]
          refine B_skipD 41 46 (i := 17) rfl rfl (by kernel_rfl) (fun _ _ _ h => h) (by kernel_rfl) hS0 ?_
          simp only [List.setIfInBounds_toArray, List.set_cons_zero, List.set_cons_succ]
          refine B_skipD 41 47 (i := 18) rfl rfl (by kernel_rfl) (fun _ _ _ h => h) (by kernel_rfl) hS0 ?_
          simp only [List.setIfInBounds_toArray, List.set_cons_zero, List.set_cons_succ]
          refine B_skipD 41 48 (i := 19) rfl rfl (by kernel_rfl) (fun _ _ _ h => h) (by kernel_rfl) hS0 ?_
          simp only [List.setIfInBounds_toArray, List.set_cons_zero, List.set_cons_succ]
          refine B_skipD 41 49 (i := 20) rfl rfl (by kernel_rfl) (fun _ _ _ h => h) (by kernel_rfl) hS0 ?_
          simp only [List.setIfInBounds_toArray, List.set_cons_zero, List.set_cons_succ]
          refine B_skipD 41 50 (i := 21) rfl rfl (by kernel_rfl) (fun _ _ _ h => h) (by kernel_rfl) hS0 ?_
          simp only [List.setIfInBounds_toArray, List.set_cons_zero, List.set_cons_succ]
          refine B_skipD 41 51 (i := 22) rfl rfl (by kernel_rfl) (fun _ _ _ h => h) (by kernel_rfl) hS0 ?_
          simp only [List.setIfInBounds_toArray, List.set_cons_zero, List.set_cons_succ]
          refine B_takeD 41 52 (i := 23) (v := .bool true) rfl rfl (by kernel_rfl) (fun _ _ _ h => h) (by kernel_rfl) (fun w' hSw => ?_) hS0 ?_
          · obtain ⟨hs1, hs2, hs3, hs4, hs5, hs6⟩ := hSw; go_simp
          simp only [List.setIfInBounds_toArray, List.set_cons_zero, List.set_cons_succ]
          refine B_takeD 41 53 (i := 24) (v := .bool true) rfl rfl (by kernel_rfl) (fun _ _ _ h => h) (by kernel_rfl) (fun w' hSw => ?_) hS0 ?_
          · obtain ⟨hs1, hs2, hs3, hs4, hs5, hs6⟩ := hSw; go_simp
          simp only [List.setIfInBounds_toArray, List.set_cons_zero, List.set_cons_succ]
          refine B_skipD 41 54 (i := 25) rfl rfl (by kernel_rfl) (fun _ _ _ h => h) (by kernel_rfl) hS0 ?_
          simp only [List.setIfInBounds_toArray, List.set_cons_zero, List.set_cons_succ]
          refine B_skipD 41 55 (i := 26) rfl rfl (by kernel_rfl) (fun _ _ _ h => h) (by kernel_rfl) hS0 ?_
          simp only [List.setIfInBounds_toArray, List.set_cons_zero, List.set_cons_succ]
          refine B_skipD 41 56 (i := 27) rfl rfl (by kernel_rfl) (fun _ _ _ h => h) (by kernel_rfl) hS0 ?_
          simp only [List.setIfInBounds_toArray, List.set_cons_zero, List.set_cons_succ]
          refine B_skipD 41 57 (i := 28) rfl rfl (by kernel_rfl) (fun _ _ _ h => h) (by kernel_rfl) hS0 ?_
          simp only [List.setIfInBounds_toArray, List.set_cons_zero, List.set_cons_succ]
          refine B_skipD 41 58 (i := 29) rfl rfl (by kernel_rfl) (fun _ _ _ h => h) (by kernel_rfl) hS0 ?_
          simp only [List.setIfInBounds_toArray, List.set_cons_zero, List.set_cons_succ]
          refine B_skipD 41 59 (i := 30) rfl rfl (by kernel_rfl) (fun _ _ _ h => h) (by kernel_rfl) hS0 ?_
          simp only [List.setIfInBounds_toArray, List.set_cons_zero, List.set_cons_succ]
          refine B_skipD 41 60 (i := 31) rfl rfl (by kernel_rfl) (fun _ _ _ h => h) (by kernel_rfl) hS0 ?_
          simp only [List.setIfInBounds_toArray, List.set_cons_zero, List.set_cons_succ]
          refine B_skipD 41 61 (i := 32) rfl rfl (by kernel_rfl) (fun _ _ _ h => h) (by kernel_rfl) hS0 ?_
          simp only [List.setIfInBounds_toArray, List.set_cons_zero, List.set_cons_succ]
          refine B_skipD 41 62 (i := 33) rfl rfl (by kernel_rfl) (fun _ _ _ h => h) (by kernel_rfl) hS0 ?_
          simp only [List.setIfInBounds_toArray, List.set_cons_zero, List.set_cons_succ]
          refine B_skipD 41 63 (i := 34) rfl rfl (by kernel_rfl) (fun _ _ _ h => h) (by kernel_rfl) hS0 ?_
          simp only [List.setIfInBounds_toArray, List.set_cons_zero, List.set_cons_succ]
          refine B_skipD 41 64 (i := 35) rfl rfl (by kernel_rfl) (fun _ _ _ h => h) (by kernel_rfl) hS0 ?_
          simp only [List.setIfInBounds_toArray, List.set_cons_zero, List.set_cons_succ]
          refine B_takeD 41 65 (i := 36) (v := .bool true) rfl rfl (by kernel_rfl) (fun _ _ _ h => h) (by kernel_rfl) (fun w' hSw => ?_) hS0 ?_
          · obtain ⟨hs1, hs2, hs3, hs4, hs5, hs6⟩ := hSw; go_simp
          simp only [List.setIfInBounds_toArray, List.set_cons_zero, List.set_cons_succ]
          refine B_takeD 41 66 (i := 37) (v := .bool true) rfl rfl (by kernel_rfl) (fun _ _ _ h => h) (by kernel_rfl) (fun w' hSw => ?_) hS0 ?_
          · obtain ⟨hs1, hs2, hs3, hs4, hs5, hs6⟩ := hSw; go_simp
          simp only [List.setIfInBounds_toArray, List.set_cons_zero, List.set_cons_succ]
          refine B_skipD 41 67 (i := 38) rfl rfl (by kernel_rfl) (fun _ _ _ h => h) (by kernel_rfl) hS0 ?_
          simp only [List.setIfInBounds_toArray, List.set_cons_zero, List.set_cons_succ]
          refine B_skipD 41 68 (i := 39) rfl rfl (by kernel_rfl) (fun _ _ _ h => h) (by kernel_rfl) hS0 ?_
          simp only [List.setIfInBounds_toArray, List.set_cons_zero, List.set_cons_succ]
          refine B_takeD 41 69 (i := 40) (v := .bool true) rfl rfl (by kernel_rfl) (fun _ _ _ h => h) (by kernel_rfl) (fun w' hSw => ?_) hS0 ?_
          · obtain ⟨hs1, hs2, hs3, hs4, hs5, hs6⟩ := hSw; go_simp
          simp only [List.setIfInBounds_toArray, List.set_cons_zero, List.set_cons_succ]
          refine ⟨by kernel_rfl, ?_⟩
          clear hS0 x0' x1' x2' y0' y1' y2'
          go_wp2
          go_ret
          exact ⟨congrArg (fun x => Ending.returned (Value.bool x)) HNO.out.symm, below_step HB9.out (below_drew (Below.refl _ _))⟩
      · obtain rfl : i = xs.length := by omega
        have HT : Aside0 (eqB xs ys = true) := ⟨eqB_iff.2 (by have h := H.out.2; rw [List.take_length, HLEN.out, List.take_length] at h; exact h)⟩
        go_wp2
        go_ret
        exact ⟨congrArg (fun x => Ending.returned (Value.bool x)) HT.out.symm, H.out.1⟩
  · have hlen' : ¬ (xs.length : Int) = (ys.length : Int) := by omega
    have HN := Aside0.mk (eqB_no (show xs ≠ ys by rintro rfl; exact hlen rfl))
    clear hx hy' IH
    go_enter Tryz.func12, Tryz.ntmps12
    go_wp2
    go_ret
    exact ⟨congrArg (fun x => Ending.returned (Value.bool x)) HN.out.symm, Below.refl _ _⟩
end Go.Proofs.YtoanmoddppmffaaGreatDoor.T
