/- The reference's Same of any two rows of what must hold; and both. -/
import Derived.Test.YtoanmoddppmffaaGreatDoorXSc
import Derived.BigQuiet
import Derived.Deep.QuietTactic
import Derived.Deep.DeepCutAuto
namespace Go.Proofs.YtoanmoddppmffaaGreatDoor.T
open Go.RowKit Go.Shelf Go.Proofs.YtoanmoddppmffaaGreatDoorW.PrintWords
set_option linter.unusedVariables false
set_option linter.unusedSimpArgs false
set_option maxHeartbeats 16000000 in
set_option maxRecDepth 100000 in
theorem rPreds_any (n : Nat) (IH : ∀ m, m < n → RSameC m ∧ RSamePC m) : RSamePC n := by
  intro ok ok' w v u xs ys hx hy
  obtain ⟨A, c, rfl, hc1, hc2⟩ := hx.slice
  obtain ⟨ny, hy'⟩ := hy
  obtain ⟨B, d, rfl, hd1, hd2⟩ := hy'.slice
  by_cases hlen : xs.length = ys.length
  · rw [← hlen]
    have HLEN := Aside0.mk hlen
    have HX := Aside0.mk hx
    have HY := Aside0.mk hy'
    have HIH := Aside0.mk IH
    have hm : (xs.length : Int) ≤ 9223372036854775807 := by unfold maxLen at hc2; omega
    clear hx hy' IH hlen
    go_enter Tryz.func21, Tryz.ntmps21
    go_wp2
    go_loopg [5] xs.length (fun gk iv wr => ∃ i : Nat, iv = .int .i64 i ∧ i ≤ xs.length ∧ xs.length - i ≤ gk ∧ Aside0 (Below w.heap.size w wr ∧ xs.take i = ys.take i))
    case atStart => exact ⟨0, rfl, by omega, by omega, ⟨Below.refl _ _, rfl⟩⟩
    case round =>
      obtain ⟨i, rfl, hi, hgk, H⟩ := hrel
      have hi0 : (0 : Int) ≤ (i : Int) := by omega
      by_cases hlt : i < xs.length
      · have hlt1 : (i : Int) < (xs.length : Int) := by omega
        obtain ⟨x, hxi⟩ : ∃ x, xs[i]? = some x := ⟨_, List.getElem?_eq_getElem hlt⟩
        obtain ⟨y, hyi⟩ : ∃ y, ys[i]? = some y := ⟨_, List.getElem?_eq_getElem (by have := HLEN.out; omega)⟩
        obtain ⟨m, ad, c', u1, v1, rfl, hv1, hok1, hp1, ha1, x0, x1, x2, x3⟩ := HX.out.getP hxi
        obtain ⟨m2, bd, d', u2, v2, rfl, hv2, hok2, hp2, ha2, y0, y1, y2, y3⟩ := HY.out.getP (n := ny) hyi
        simp only [Value.slice.injEq, true_and] at hv1 hv2
        obtain ⟨rfl, rfl⟩ := hv1
        obtain ⟨rfl, rfl⟩ := hv2
        have hbel := H.out.1
        have q0 : wr.cell? ⟨(ad.add (i * 4)).block, (ad.add (i * 4)).off + 2, none⟩ = some u1 := pw_cell_below hbel x2
        have q1 : wr.cell? ⟨(bd.add (i * 4)).block, (bd.add (i * 4)).off + 2, none⟩ = some u2 := pw_cell_below hbel y2
        obtain ⟨ep, he0⟩ : ∃ ep, ep = eqB x.path y.path := ⟨_, rfl⟩
        obtain ⟨eq, he1⟩ : ∃ eq, eq = eqB x.args y.args := ⟨_, rfl⟩
        have hcall := (HIH.out m (by omega)).1 _ _ wr.drew u1 u2 x.path y.path (stepsAt_below hp1 (below_step hbel (below_drew (Below.refl _ _)))) ⟨_, stepsAt_below hp2 (below_step hbel (below_drew (Below.refl _ _)))⟩
        rw [← he0] at hcall
        have HNE : Aside0 (x ≠ y → eqB xs ys = false) := ⟨fun h => eqB_no (by rintro rfl; rw [hxi] at hyi; exact h (Option.some.inj hyi))⟩
        have HEQ : Aside0 (x = y → xs.take (i + 1) = ys.take (i + 1)) := ⟨fun e => by rw [List.take_add_one, List.take_add_one, H.out.2, hxi, hyi, e]⟩
        clear hxi hyi
        go_wp2_with fail
        refine B_region (fun w' => w'.cell? ⟨(ad.add (i * 4)).block, (ad.add (i * 4)).off + 2, none⟩ = some u1 ∧ w'.cell? ⟨(bd.add (i * 4)).block, (bd.add (i * 4)).off + 2, none⟩ = some u2) 12 (by kernel_rfl) ⟨q0, q1⟩ (fun hS0 => ?_)
        refine B_takeD 10 19 (i := 0) (v := .slice (some ad) xs.length c) rfl rfl (by kernel_rfl) (fun _ _ _ h => h) (by kernel_rfl) (fun w' hSw => ?_) hS0 ?_
        · obtain ⟨hs1, hs2⟩ := hSw; go_simp
        simp only [List.setIfInBounds_toArray, List.set_cons_zero, List.set_cons_succ]
        refine B_takeD 10 20 (i := 1) (v := .int .i64 i) rfl rfl (by kernel_rfl) (fun _ _ _ h => h) (by kernel_rfl) (fun w' hSw => ?_) hS0 ?_
        · obtain ⟨hs1, hs2⟩ := hSw; go_simp
        simp only [List.setIfInBounds_toArray, List.set_cons_zero, List.set_cons_succ]
        refine B_takeD 10 21 (i := 2) (v := .pointer (some (ad.add (i * 4)))) rfl rfl (by kernel_rfl) (fun _ _ _ h => h) (by kernel_rfl) (fun w' hSw => ?_) hS0 ?_
        · obtain ⟨hs1, hs2⟩ := hSw; go_simp
        simp only [List.setIfInBounds_toArray, List.set_cons_zero, List.set_cons_succ]
        refine B_takeD 10 22 (i := 3) (v := .pointer (some ⟨(ad.add (i * 4)).block, (ad.add (i * 4)).off + 2, none⟩)) rfl rfl (by kernel_rfl) (fun _ _ _ h => h) (by kernel_rfl) (fun w' hSw => ?_) hS0 ?_
        · obtain ⟨hs1, hs2⟩ := hSw; go_simp
        simp only [List.setIfInBounds_toArray, List.set_cons_zero, List.set_cons_succ]
        refine B_takeD 10 23 (i := 4) (v := u1) rfl rfl (by kernel_rfl) (fun _ _ _ h => h) (by kernel_rfl) (fun w' hSw => ?_) hS0 ?_
        · obtain ⟨hs1, hs2⟩ := hSw; go_simp
        simp only [List.setIfInBounds_toArray, List.set_cons_zero, List.set_cons_succ]
        refine B_takeD 10 24 (i := 5) (v := .slice (some bd) xs.length d) rfl rfl (by kernel_rfl) (fun _ _ _ h => h) (by kernel_rfl) (fun w' hSw => ?_) hS0 ?_
        · obtain ⟨hs1, hs2⟩ := hSw; go_simp
        simp only [List.setIfInBounds_toArray, List.set_cons_zero, List.set_cons_succ]
        refine B_takeD 10 25 (i := 6) (v := .int .i64 i) rfl rfl (by kernel_rfl) (fun _ _ _ h => h) (by kernel_rfl) (fun w' hSw => ?_) hS0 ?_
        · obtain ⟨hs1, hs2⟩ := hSw; go_simp
        simp only [List.setIfInBounds_toArray, List.set_cons_zero, List.set_cons_succ]
        refine B_takeD 10 26 (i := 7) (v := .pointer (some (bd.add (i * 4)))) rfl rfl (by kernel_rfl) (fun _ _ _ h => h) (by kernel_rfl) (fun w' hSw => ?_) hS0 ?_
        · obtain ⟨hs1, hs2⟩ := hSw; go_simp
        simp only [List.setIfInBounds_toArray, List.set_cons_zero, List.set_cons_succ]
        refine B_takeD 10 27 (i := 8) (v := .pointer (some ⟨(bd.add (i * 4)).block, (bd.add (i * 4)).off + 2, none⟩)) rfl rfl (by kernel_rfl) (fun _ _ _ h => h) (by kernel_rfl) (fun w' hSw => ?_) hS0 ?_
        · obtain ⟨hs1, hs2⟩ := hSw; go_simp
        simp only [List.setIfInBounds_toArray, List.set_cons_zero, List.set_cons_succ]
        refine B_takeD 10 28 (i := 9) (v := u2) rfl rfl (by kernel_rfl) (fun _ _ _ h => h) (by kernel_rfl) (fun w' hSw => ?_) hS0 ?_
        · obtain ⟨hs1, hs2⟩ := hSw; go_simp
        simp only [List.setIfInBounds_toArray, List.set_cons_zero, List.set_cons_succ]
        refine B_one (i := 10) rfl (by kernel_rfl) (fun K' hK => ?_)
        go_simp
        refine hcall.mono ?_
        rintro e w5 ⟨rfl, hb5⟩
        have hbel5 : Below w.heap.size w w5 := below_step (below_step hbel (below_drew (Below.refl _ _))) hb5
        have r0 : w5.cell? ⟨(ad.add (i * 4)).block, (ad.add (i * 4)).off + 2, none⟩ = some u1 := pw_cell_below hbel5 x2
        have r1 : w5.cell? ⟨(bd.add (i * 4)).block, (bd.add (i * 4)).off + 2, none⟩ = some u2 := pw_cell_below hbel5 y2
        refine hK.out _ _ ⟨r0, r1⟩ ?_
        clear hK K'
        try simp only [Act.put, List.setIfInBounds_toArray, List.set_cons_zero, List.set_cons_succ]
        refine B_one (i := 11) rfl (by kernel_rfl) (fun K' hK => ?_)
        go_simp
        refine hK.out _ _ ⟨r0, r1⟩ ?_
        clear hK K'
        try simp only [Act.put, List.setIfInBounds_toArray, List.set_cons_zero, List.set_cons_succ]
        refine ⟨by kernel_rfl, ?_⟩
        clear hcall q0 q1 r0 r1 hb5 hS0
        have q0 : w5.cell? ⟨(ad.add (i * 4)).block, (ad.add (i * 4)).off + 3, none⟩ = some v1 := pw_cell_below hbel5 x3
        have q1 : w5.cell? ⟨(bd.add (i * 4)).block, (bd.add (i * 4)).off + 3, none⟩ = some v2 := pw_cell_below hbel5 y3
        have hcall := (HIH.out m (by omega)).2 _ _ w5.drew v1 v2 x.args y.args (predsAt_below ha1 (below_step hbel5 (below_drew (Below.refl _ _)))) ⟨_, predsAt_below ha2 (below_step hbel5 (below_drew (Below.refl _ _)))⟩
        rw [← he1] at hcall
        go_upto_region 7 with fail
        refine B_region (fun w' => w'.cell? ⟨(ad.add (i * 4)).block, (ad.add (i * 4)).off + 3, none⟩ = some v1 ∧ w'.cell? ⟨(bd.add (i * 4)).block, (bd.add (i * 4)).off + 3, none⟩ = some v2) 12 (by kernel_rfl) ⟨q0, q1⟩ (fun hS0 => ?_)
        refine B_takeD 10 30 (i := 0) (v := .slice (some ad) xs.length c) rfl rfl (by kernel_rfl) (fun _ _ _ h => h) (by kernel_rfl) (fun w' hSw => ?_) hS0 ?_
        · obtain ⟨hs1, hs2⟩ := hSw; go_simp
        simp only [List.setIfInBounds_toArray, List.set_cons_zero, List.set_cons_succ]
        refine B_takeD 10 31 (i := 1) (v := .int .i64 i) rfl rfl (by kernel_rfl) (fun _ _ _ h => h) (by kernel_rfl) (fun w' hSw => ?_) hS0 ?_
        · obtain ⟨hs1, hs2⟩ := hSw; go_simp
        simp only [List.setIfInBounds_toArray, List.set_cons_zero, List.set_cons_succ]
        refine B_takeD 10 32 (i := 2) (v := .pointer (some (ad.add (i * 4)))) rfl rfl (by kernel_rfl) (fun _ _ _ h => h) (by kernel_rfl) (fun w' hSw => ?_) hS0 ?_
        · obtain ⟨hs1, hs2⟩ := hSw; go_simp
        simp only [List.setIfInBounds_toArray, List.set_cons_zero, List.set_cons_succ]
        refine B_takeD 10 33 (i := 3) (v := .pointer (some ⟨(ad.add (i * 4)).block, (ad.add (i * 4)).off + 3, none⟩)) rfl rfl (by kernel_rfl) (fun _ _ _ h => h) (by kernel_rfl) (fun w' hSw => ?_) hS0 ?_
        · obtain ⟨hs1, hs2⟩ := hSw; go_simp
        simp only [List.setIfInBounds_toArray, List.set_cons_zero, List.set_cons_succ]
        refine B_takeD 10 34 (i := 4) (v := v1) rfl rfl (by kernel_rfl) (fun _ _ _ h => h) (by kernel_rfl) (fun w' hSw => ?_) hS0 ?_
        · obtain ⟨hs1, hs2⟩ := hSw; go_simp
        simp only [List.setIfInBounds_toArray, List.set_cons_zero, List.set_cons_succ]
        refine B_takeD 10 35 (i := 5) (v := .slice (some bd) xs.length d) rfl rfl (by kernel_rfl) (fun _ _ _ h => h) (by kernel_rfl) (fun w' hSw => ?_) hS0 ?_
        · obtain ⟨hs1, hs2⟩ := hSw; go_simp
        simp only [List.setIfInBounds_toArray, List.set_cons_zero, List.set_cons_succ]
        refine B_takeD 10 36 (i := 6) (v := .int .i64 i) rfl rfl (by kernel_rfl) (fun _ _ _ h => h) (by kernel_rfl) (fun w' hSw => ?_) hS0 ?_
        · obtain ⟨hs1, hs2⟩ := hSw; go_simp
        simp only [List.setIfInBounds_toArray, List.set_cons_zero, List.set_cons_succ]
        refine B_takeD 10 37 (i := 7) (v := .pointer (some (bd.add (i * 4)))) rfl rfl (by kernel_rfl) (fun _ _ _ h => h) (by kernel_rfl) (fun w' hSw => ?_) hS0 ?_
        · obtain ⟨hs1, hs2⟩ := hSw; go_simp
        simp only [List.setIfInBounds_toArray, List.set_cons_zero, List.set_cons_succ]
        refine B_takeD 10 38 (i := 8) (v := .pointer (some ⟨(bd.add (i * 4)).block, (bd.add (i * 4)).off + 3, none⟩)) rfl rfl (by kernel_rfl) (fun _ _ _ h => h) (by kernel_rfl) (fun w' hSw => ?_) hS0 ?_
        · obtain ⟨hs1, hs2⟩ := hSw; go_simp
        simp only [List.setIfInBounds_toArray, List.set_cons_zero, List.set_cons_succ]
        refine B_takeD 10 39 (i := 9) (v := v2) rfl rfl (by kernel_rfl) (fun _ _ _ h => h) (by kernel_rfl) (fun w' hSw => ?_) hS0 ?_
        · obtain ⟨hs1, hs2⟩ := hSw; go_simp
        simp only [List.setIfInBounds_toArray, List.set_cons_zero, List.set_cons_succ]
        refine B_one (i := 10) rfl (by kernel_rfl) (fun K' hK => ?_)
        go_simp
        refine hcall.mono ?_
        rintro e w6 ⟨rfl, hb6⟩
        have hbel6 : Below w.heap.size w w6 := below_step (below_step hbel5 (below_drew (Below.refl _ _))) hb6
        have r0 : w6.cell? ⟨(ad.add (i * 4)).block, (ad.add (i * 4)).off + 3, none⟩ = some v1 := pw_cell_below hbel6 x3
        have r1 : w6.cell? ⟨(bd.add (i * 4)).block, (bd.add (i * 4)).off + 3, none⟩ = some v2 := pw_cell_below hbel6 y3
        refine hK.out _ _ ⟨r0, r1⟩ ?_
        clear hK K'
        try simp only [Act.put, List.setIfInBounds_toArray, List.set_cons_zero, List.set_cons_succ]
        refine B_one (i := 11) rfl (by kernel_rfl) (fun K' hK => ?_)
        go_simp
        refine hK.out _ _ ⟨r0, r1⟩ ?_
        clear hK K'
        try simp only [Act.put, List.setIfInBounds_toArray, List.set_cons_zero, List.set_cons_succ]
        refine ⟨by kernel_rfl, ?_⟩
        have x0' : w6.cell? (ad.add (i * 4)) = some (.int .i64 x.kind) := pw_cell_below hbel6 x0
        have x1' : w6.cell? ⟨(ad.add (i * 4)).block, (ad.add (i * 4)).off + 1, none⟩ = some (.int .i64 x.n) := pw_cell_below hbel6 x1
        have y0' : w6.cell? (bd.add (i * 4)) = some (.int .i64 y.kind) := pw_cell_below hbel6 y0
        have y1' : w6.cell? ⟨(bd.add (i * 4)).block, (bd.add (i * 4)).off + 1, none⟩ = some (.int .i64 y.n) := pw_cell_below hbel6 y1
        have HB9 := Aside0.mk hbel6
        clear hcall q0 q1 r0 r1 hb6 hbel hbel5 hbel6 hS0 x0 x1 x2 x3 y0 y1 y2 y3 hp1 hp2 ha1 ha2
        by_cases d0 : x.kind = y.kind
        · rw [← d0] at y0'
          by_cases d1 : x.n = y.n
          · rw [← d1] at y1'
            cases hep : eqB x.path y.path with
            | false =>
              have HNO : Aside0 (eqB xs ys = false) := ⟨HNE.out (fun e => by rw [e, eqB_self] at hep; cases hep)⟩
              rw [hep] at he0
              subst he0
              go_upto_region 8 with fail
              refine B_region (fun w' => w'.cell? (ad.add (i * 4)) = some (.int .i64 x.kind) ∧ w'.cell? ⟨(ad.add (i * 4)).block, (ad.add (i * 4)).off + 1, none⟩ = some (.int .i64 x.n) ∧ w'.cell? (bd.add (i * 4)) = some (.int .i64 x.kind) ∧ w'.cell? ⟨(bd.add (i * 4)).block, (bd.add (i * 4)).off + 1, none⟩ = some (.int .i64 x.n)) 32 (by kernel_rfl) ⟨x0', x1', y0', y1'⟩ (fun hS0 => ?_)
              refine B_takeD 32 41 (i := 0) (v := .slice (some ad) xs.length c) rfl rfl (by kernel_rfl) (fun _ _ _ h => h) (by kernel_rfl) (fun w' hSw => ?_) hS0 ?_
              · obtain ⟨hs1, hs2, hs3, hs4⟩ := hSw; go_simp
              simp only [List.setIfInBounds_toArray, List.set_cons_zero, List.set_cons_succ]
              refine B_takeD 32 42 (i := 1) (v := .int .i64 i) rfl rfl (by kernel_rfl) (fun _ _ _ h => h) (by kernel_rfl) (fun w' hSw => ?_) hS0 ?_
              · obtain ⟨hs1, hs2, hs3, hs4⟩ := hSw; go_simp
              simp only [List.setIfInBounds_toArray, List.set_cons_zero, List.set_cons_succ]
              refine B_takeD 32 43 (i := 2) (v := .pointer (some (ad.add (i * 4)))) rfl rfl (by kernel_rfl) (fun _ _ _ h => h) (by kernel_rfl) (fun w' hSw => ?_) hS0 ?_
              · obtain ⟨hs1, hs2, hs3, hs4⟩ := hSw; go_simp
              simp only [List.setIfInBounds_toArray, List.set_cons_zero, List.set_cons_succ]
              refine B_takeD 32 44 (i := 3) (v := .pointer (some (ad.add (i * 4)))) rfl rfl (by kernel_rfl) (fun _ _ _ h => h) (by kernel_rfl) (fun w' hSw => ?_) hS0 ?_
              · obtain ⟨hs1, hs2, hs3, hs4⟩ := hSw; go_simp
              simp only [List.setIfInBounds_toArray, List.set_cons_zero, List.set_cons_succ]
              refine B_takeD 32 45 (i := 4) (v := .int .i64 x.kind) rfl rfl (by kernel_rfl) (fun _ _ _ h => h) (by kernel_rfl) (fun w' hSw => ?_) hS0 ?_
              · obtain ⟨hs1, hs2, hs3, hs4⟩ := hSw; go_simp
              simp only [List.setIfInBounds_toArray, List.set_cons_zero, List.set_cons_succ]
              refine B_takeD 32 46 (i := 5) (v := .slice (some bd) xs.length d) rfl rfl (by kernel_rfl) (fun _ _ _ h => h) (by kernel_rfl) (fun w' hSw => ?_) hS0 ?_
              · obtain ⟨hs1, hs2, hs3, hs4⟩ := hSw; go_simp
              simp only [List.setIfInBounds_toArray, List.set_cons_zero, List.set_cons_succ]
              refine B_takeD 32 47 (i := 6) (v := .int .i64 i) rfl rfl (by kernel_rfl) (fun _ _ _ h => h) (by kernel_rfl) (fun w' hSw => ?_) hS0 ?_
              · obtain ⟨hs1, hs2, hs3, hs4⟩ := hSw; go_simp
              simp only [List.setIfInBounds_toArray, List.set_cons_zero, List.set_cons_succ]
              refine B_takeD 32 48 (i := 7) (v := .pointer (some (bd.add (i * 4)))) rfl rfl (by kernel_rfl) (fun _ _ _ h => h) (by kernel_rfl) (fun w' hSw => ?_) hS0 ?_
              · obtain ⟨hs1, hs2, hs3, hs4⟩ := hSw; go_simp
              simp only [List.setIfInBounds_toArray, List.set_cons_zero, List.set_cons_succ]
              refine B_takeD 32 49 (i := 8) (v := .pointer (some (bd.add (i * 4)))) rfl rfl (by kernel_rfl) (fun _ _ _ h => h) (by kernel_rfl) (fun w' hSw => ?_) hS0 ?_
              · obtain ⟨hs1, hs2, hs3, hs4⟩ := hSw; go_simp
              simp only [List.setIfInBounds_toArray, List.set_cons_zero, List.set_cons_succ]
              refine B_takeD 32 50 (i := 9) (v := .int .i64 x.kind) rfl rfl (by kernel_rfl) (fun _ _ _ h => h) (by kernel_rfl) (fun w' hSw => ?_) hS0 ?_
              · obtain ⟨hs1, hs2, hs3, hs4⟩ := hSw; go_simp
              simp only [List.setIfInBounds_toArray, List.set_cons_zero, List.set_cons_succ]
              refine B_takeD 32 51 (i := 10) (v := .bool false) rfl rfl (by kernel_rfl) (fun _ _ _ h => h) (by kernel_rfl) (fun w' hSw => ?_) hS0 ?_
              · obtain ⟨hs1, hs2, hs3, hs4⟩ := hSw; go_simp
              simp only [List.setIfInBounds_toArray, List.set_cons_zero, List.set_cons_succ]
              refine B_takeD 32 52 (i := 11) (v := .bool false) rfl rfl (by kernel_rfl) (fun _ _ _ h => h) (by kernel_rfl) (fun w' hSw => ?_) hS0 ?_
              · obtain ⟨hs1, hs2, hs3, hs4⟩ := hSw; go_simp
              simp only [List.setIfInBounds_toArray, List.set_cons_zero, List.set_cons_succ]
              refine B_takeD 32 53 (i := 12) (v := .slice (some ad) xs.length c) rfl rfl (by kernel_rfl) (fun _ _ _ h => h) (by kernel_rfl) (fun w' hSw => ?_) hS0 ?_
              · obtain ⟨hs1, hs2, hs3, hs4⟩ := hSw; go_simp
              simp only [List.setIfInBounds_toArray, List.set_cons_zero, List.set_cons_succ]
              refine B_takeD 32 54 (i := 13) (v := .int .i64 i) rfl rfl (by kernel_rfl) (fun _ _ _ h => h) (by kernel_rfl) (fun w' hSw => ?_) hS0 ?_
              · obtain ⟨hs1, hs2, hs3, hs4⟩ := hSw; go_simp
              simp only [List.setIfInBounds_toArray, List.set_cons_zero, List.set_cons_succ]
              refine B_takeD 32 55 (i := 14) (v := .pointer (some (ad.add (i * 4)))) rfl rfl (by kernel_rfl) (fun _ _ _ h => h) (by kernel_rfl) (fun w' hSw => ?_) hS0 ?_
              · obtain ⟨hs1, hs2, hs3, hs4⟩ := hSw; go_simp
              simp only [List.setIfInBounds_toArray, List.set_cons_zero, List.set_cons_succ]
              refine B_takeD 32 56 (i := 15) (v := .pointer (some ⟨(ad.add (i * 4)).block, (ad.add (i * 4)).off + 1, none⟩)) rfl rfl (by kernel_rfl) (fun _ _ _ h => h) (by kernel_rfl) (fun w' hSw => ?_) hS0 ?_
              · obtain ⟨hs1, hs2, hs3, hs4⟩ := hSw; go_simp
              simp only [List.setIfInBounds_toArray, List.set_cons_zero, List.set_cons_succ]
              refine B_takeD 32 57 (i := 16) (v := .int .i64 x.n) rfl rfl (by kernel_rfl) (fun _ _ _ h => h) (by kernel_rfl) (fun w' hSw => ?_) hS0 ?_
              · obtain ⟨hs1, hs2, hs3, hs4⟩ := hSw; go_simp
              simp only [List.setIfInBounds_toArray, List.set_cons_zero, List.set_cons_succ]
              refine B_takeD 32 58 (i := 17) (v := .slice (some bd) xs.length d) rfl rfl (by kernel_rfl) (fun _ _ _ h => h) (by kernel_rfl) (fun w' hSw => ?_) hS0 ?_
              · obtain ⟨hs1, hs2, hs3, hs4⟩ := hSw; go_simp
              simp only [List.setIfInBounds_toArray, List.set_cons_zero, List.set_cons_succ]
              refine B_takeD 32 59 (i := 18) (v := .int .i64 i) rfl rfl (by kernel_rfl) (fun _ _ _ h => h) (by kernel_rfl) (fun w' hSw => ?_) hS0 ?_
              · obtain ⟨hs1, hs2, hs3, hs4⟩ := hSw; go_simp
              simp only [List.setIfInBounds_toArray, List.set_cons_zero, List.set_cons_succ]
              refine B_takeD 32 60 (i := 19) (v := .pointer (some (bd.add (i * 4)))) rfl rfl (by kernel_rfl) (fun _ _ _ h => h) (by kernel_rfl) (fun w' hSw => ?_) hS0 ?_
              · obtain ⟨hs1, hs2, hs3, hs4⟩ := hSw; go_simp
              simp only [List.setIfInBounds_toArray, List.set_cons_zero, List.set_cons_succ]
              refine B_takeD 32 61 (i := 20) (v := .pointer (some ⟨(bd.add (i * 4)).block, (bd.add (i * 4)).off + 1, none⟩)) rfl rfl (by kernel_rfl) (fun _ _ _ h => h) (by kernel_rfl) (fun w' hSw => ?_) hS0 ?_
              · obtain ⟨hs1, hs2, hs3, hs4⟩ := hSw; go_simp
              simp only [List.setIfInBounds_toArray, List.set_cons_zero, List.set_cons_succ]
              refine B_takeD 32 62 (i := 21) (v := .int .i64 x.n) rfl rfl (by kernel_rfl) (fun _ _ _ h => h) (by kernel_rfl) (fun w' hSw => ?_) hS0 ?_
              · obtain ⟨hs1, hs2, hs3, hs4⟩ := hSw; go_simp
              simp only [List.setIfInBounds_toArray, List.set_cons_zero, List.set_cons_succ]
              refine B_takeD 32 63 (i := 22) (v := .bool false) rfl rfl (by kernel_rfl) (fun _ _ _ h => h) (by kernel_rfl) (fun w' hSw => ?_) hS0 ?_
              · obtain ⟨hs1, hs2, hs3, hs4⟩ := hSw; go_simp
              simp only [List.setIfInBounds_toArray, List.set_cons_zero, List.set_cons_succ]
              refine B_takeD 32 64 (i := 23) (v := .bool false) rfl rfl (by kernel_rfl) (fun _ _ _ h => h) (by kernel_rfl) (fun w' hSw => ?_) hS0 ?_
              · obtain ⟨hs1, hs2, hs3, hs4⟩ := hSw; go_simp
              simp only [List.setIfInBounds_toArray, List.set_cons_zero, List.set_cons_succ]
              refine B_takeD 32 65 (i := 24) (v := .bool false) rfl rfl (by kernel_rfl) (fun _ _ _ h => h) (by kernel_rfl) (fun w' hSw => ?_) hS0 ?_
              · obtain ⟨hs1, hs2, hs3, hs4⟩ := hSw; go_simp
              simp only [List.setIfInBounds_toArray, List.set_cons_zero, List.set_cons_succ]
              refine B_takeD 32 66 (i := 25) (v := .bool false) rfl rfl (by kernel_rfl) (fun _ _ _ h => h) (by kernel_rfl) (fun w' hSw => ?_) hS0 ?_
              · obtain ⟨hs1, hs2, hs3, hs4⟩ := hSw; go_simp
              simp only [List.setIfInBounds_toArray, List.set_cons_zero, List.set_cons_succ]
              refine B_takeD 32 67 (i := 26) (v := .bool true) rfl rfl (by kernel_rfl) (fun _ _ _ h => h) (by kernel_rfl) (fun w' hSw => ?_) hS0 ?_
              · obtain ⟨hs1, hs2, hs3, hs4⟩ := hSw; go_simp
              simp only [List.setIfInBounds_toArray, List.set_cons_zero, List.set_cons_succ]
              refine B_takeD 32 68 (i := 27) (v := .bool true) rfl rfl (by kernel_rfl) (fun _ _ _ h => h) (by kernel_rfl) (fun w' hSw => ?_) hS0 ?_
              · obtain ⟨hs1, hs2, hs3, hs4⟩ := hSw; go_simp
              simp only [List.setIfInBounds_toArray, List.set_cons_zero, List.set_cons_succ]
              refine B_takeD 32 69 (i := 28) (v := .bool true) rfl rfl (by kernel_rfl) (fun _ _ _ h => h) (by kernel_rfl) (fun w' hSw => ?_) hS0 ?_
              · obtain ⟨hs1, hs2, hs3, hs4⟩ := hSw; go_simp
              simp only [List.setIfInBounds_toArray, List.set_cons_zero, List.set_cons_succ]
              refine B_skipD 32 70 (i := 29) rfl rfl (by kernel_rfl) (fun _ _ _ h => h) (by kernel_rfl) hS0 ?_
              simp only [List.setIfInBounds_toArray, List.set_cons_zero, List.set_cons_succ]
              refine B_skipD 32 71 (i := 30) rfl rfl (by kernel_rfl) (fun _ _ _ h => h) (by kernel_rfl) hS0 ?_
              simp only [List.setIfInBounds_toArray, List.set_cons_zero, List.set_cons_succ]
              refine B_takeD 32 72 (i := 31) (v := .bool true) rfl rfl (by kernel_rfl) (fun _ _ _ h => h) (by kernel_rfl) (fun w' hSw => ?_) hS0 ?_
              · obtain ⟨hs1, hs2, hs3, hs4⟩ := hSw; go_simp
              simp only [List.setIfInBounds_toArray, List.set_cons_zero, List.set_cons_succ]
              refine ⟨by kernel_rfl, ?_⟩
              clear hS0 x0' x1' y0' y1'
              go_wp2
              go_ret
              exact ⟨congrArg (fun x => Ending.returned (Value.bool x)) HNO.out.symm, below_step HB9.out (below_drew (Below.refl _ _))⟩
            | true =>
              rw [hep] at he0
              subst he0
              cases heq : eqB x.args y.args with
              | false =>
                have HNO : Aside0 (eqB xs ys = false) := ⟨HNE.out (fun e => by rw [e, eqB_self] at heq; cases heq)⟩
                rw [heq] at he1
                subst he1
                go_upto_region 8 with fail
                refine B_region (fun w' => w'.cell? (ad.add (i * 4)) = some (.int .i64 x.kind) ∧ w'.cell? ⟨(ad.add (i * 4)).block, (ad.add (i * 4)).off + 1, none⟩ = some (.int .i64 x.n) ∧ w'.cell? (bd.add (i * 4)) = some (.int .i64 x.kind) ∧ w'.cell? ⟨(bd.add (i * 4)).block, (bd.add (i * 4)).off + 1, none⟩ = some (.int .i64 x.n)) 32 (by kernel_rfl) ⟨x0', x1', y0', y1'⟩ (fun hS0 => ?_)
                refine B_takeD 32 41 (i := 0) (v := .slice (some ad) xs.length c) rfl rfl (by kernel_rfl) (fun _ _ _ h => h) (by kernel_rfl) (fun w' hSw => ?_) hS0 ?_
                · obtain ⟨hs1, hs2, hs3, hs4⟩ := hSw; go_simp
                simp only [List.setIfInBounds_toArray, List.set_cons_zero, List.set_cons_succ]
                refine B_takeD 32 42 (i := 1) (v := .int .i64 i) rfl rfl (by kernel_rfl) (fun _ _ _ h => h) (by kernel_rfl) (fun w' hSw => ?_) hS0 ?_
                · obtain ⟨hs1, hs2, hs3, hs4⟩ := hSw; go_simp
                simp only [List.setIfInBounds_toArray, List.set_cons_zero, List.set_cons_succ]
                refine B_takeD 32 43 (i := 2) (v := .pointer (some (ad.add (i * 4)))) rfl rfl (by kernel_rfl) (fun _ _ _ h => h) (by kernel_rfl) (fun w' hSw => ?_) hS0 ?_
                · obtain ⟨hs1, hs2, hs3, hs4⟩ := hSw; go_simp
                simp only [List.setIfInBounds_toArray, List.set_cons_zero, List.set_cons_succ]
                refine B_takeD 32 44 (i := 3) (v := .pointer (some (ad.add (i * 4)))) rfl rfl (by kernel_rfl) (fun _ _ _ h => h) (by kernel_rfl) (fun w' hSw => ?_) hS0 ?_
                · obtain ⟨hs1, hs2, hs3, hs4⟩ := hSw; go_simp
                simp only [List.setIfInBounds_toArray, List.set_cons_zero, List.set_cons_succ]
                refine B_takeD 32 45 (i := 4) (v := .int .i64 x.kind) rfl rfl (by kernel_rfl) (fun _ _ _ h => h) (by kernel_rfl) (fun w' hSw => ?_) hS0 ?_
                · obtain ⟨hs1, hs2, hs3, hs4⟩ := hSw; go_simp
                simp only [List.setIfInBounds_toArray, List.set_cons_zero, List.set_cons_succ]
                refine B_takeD 32 46 (i := 5) (v := .slice (some bd) xs.length d) rfl rfl (by kernel_rfl) (fun _ _ _ h => h) (by kernel_rfl) (fun w' hSw => ?_) hS0 ?_
                · obtain ⟨hs1, hs2, hs3, hs4⟩ := hSw; go_simp
                simp only [List.setIfInBounds_toArray, List.set_cons_zero, List.set_cons_succ]
                refine B_takeD 32 47 (i := 6) (v := .int .i64 i) rfl rfl (by kernel_rfl) (fun _ _ _ h => h) (by kernel_rfl) (fun w' hSw => ?_) hS0 ?_
                · obtain ⟨hs1, hs2, hs3, hs4⟩ := hSw; go_simp
                simp only [List.setIfInBounds_toArray, List.set_cons_zero, List.set_cons_succ]
                refine B_takeD 32 48 (i := 7) (v := .pointer (some (bd.add (i * 4)))) rfl rfl (by kernel_rfl) (fun _ _ _ h => h) (by kernel_rfl) (fun w' hSw => ?_) hS0 ?_
                · obtain ⟨hs1, hs2, hs3, hs4⟩ := hSw; go_simp
                simp only [List.setIfInBounds_toArray, List.set_cons_zero, List.set_cons_succ]
                refine B_takeD 32 49 (i := 8) (v := .pointer (some (bd.add (i * 4)))) rfl rfl (by kernel_rfl) (fun _ _ _ h => h) (by kernel_rfl) (fun w' hSw => ?_) hS0 ?_
                · obtain ⟨hs1, hs2, hs3, hs4⟩ := hSw; go_simp
                simp only [List.setIfInBounds_toArray, List.set_cons_zero, List.set_cons_succ]
                refine B_takeD 32 50 (i := 9) (v := .int .i64 x.kind) rfl rfl (by kernel_rfl) (fun _ _ _ h => h) (by kernel_rfl) (fun w' hSw => ?_) hS0 ?_
                · obtain ⟨hs1, hs2, hs3, hs4⟩ := hSw; go_simp
                simp only [List.setIfInBounds_toArray, List.set_cons_zero, List.set_cons_succ]
                refine B_takeD 32 51 (i := 10) (v := .bool false) rfl rfl (by kernel_rfl) (fun _ _ _ h => h) (by kernel_rfl) (fun w' hSw => ?_) hS0 ?_
                · obtain ⟨hs1, hs2, hs3, hs4⟩ := hSw; go_simp
                simp only [List.setIfInBounds_toArray, List.set_cons_zero, List.set_cons_succ]
                refine B_takeD 32 52 (i := 11) (v := .bool false) rfl rfl (by kernel_rfl) (fun _ _ _ h => h) (by kernel_rfl) (fun w' hSw => ?_) hS0 ?_
                · obtain ⟨hs1, hs2, hs3, hs4⟩ := hSw; go_simp
                simp only [List.setIfInBounds_toArray, List.set_cons_zero, List.set_cons_succ]
                refine B_takeD 32 53 (i := 12) (v := .slice (some ad) xs.length c) rfl rfl (by kernel_rfl) (fun _ _ _ h => h) (by kernel_rfl) (fun w' hSw => ?_) hS0 ?_
                · obtain ⟨hs1, hs2, hs3, hs4⟩ := hSw; go_simp
                simp only [List.setIfInBounds_toArray, List.set_cons_zero, List.set_cons_succ]
                refine B_takeD 32 54 (i := 13) (v := .int .i64 i) rfl rfl (by kernel_rfl) (fun _ _ _ h => h) (by kernel_rfl) (fun w' hSw => ?_) hS0 ?_
                · obtain ⟨hs1, hs2, hs3, hs4⟩ := hSw; go_simp
                simp only [List.setIfInBounds_toArray, List.set_cons_zero, List.set_cons_succ]
                refine B_takeD 32 55 (i := 14) (v := .pointer (some (ad.add (i * 4)))) rfl rfl (by kernel_rfl) (fun _ _ _ h => h) (by kernel_rfl) (fun w' hSw => ?_) hS0 ?_
                · obtain ⟨hs1, hs2, hs3, hs4⟩ := hSw; go_simp
                simp only [List.setIfInBounds_toArray, List.set_cons_zero, List.set_cons_succ]
                refine B_takeD 32 56 (i := 15) (v := .pointer (some ⟨(ad.add (i * 4)).block, (ad.add (i * 4)).off + 1, none⟩)) rfl rfl (by kernel_rfl) (fun _ _ _ h => h) (by kernel_rfl) (fun w' hSw => ?_) hS0 ?_
                · obtain ⟨hs1, hs2, hs3, hs4⟩ := hSw; go_simp
                simp only [List.setIfInBounds_toArray, List.set_cons_zero, List.set_cons_succ]
                refine B_takeD 32 57 (i := 16) (v := .int .i64 x.n) rfl rfl (by kernel_rfl) (fun _ _ _ h => h) (by kernel_rfl) (fun w' hSw => ?_) hS0 ?_
                · obtain ⟨hs1, hs2, hs3, hs4⟩ := hSw; go_simp
                simp only [List.setIfInBounds_toArray, List.set_cons_zero, List.set_cons_succ]
                refine B_takeD 32 58 (i := 17) (v := .slice (some bd) xs.length d) rfl rfl (by kernel_rfl) (fun _ _ _ h => h) (by kernel_rfl) (fun w' hSw => ?_) hS0 ?_
                · obtain ⟨hs1, hs2, hs3, hs4⟩ := hSw; go_simp
                simp only [List.setIfInBounds_toArray, List.set_cons_zero, List.set_cons_succ]
                refine B_takeD 32 59 (i := 18) (v := .int .i64 i) rfl rfl (by kernel_rfl) (fun _ _ _ h => h) (by kernel_rfl) (fun w' hSw => ?_) hS0 ?_
                · obtain ⟨hs1, hs2, hs3, hs4⟩ := hSw; go_simp
                simp only [List.setIfInBounds_toArray, List.set_cons_zero, List.set_cons_succ]
                refine B_takeD 32 60 (i := 19) (v := .pointer (some (bd.add (i * 4)))) rfl rfl (by kernel_rfl) (fun _ _ _ h => h) (by kernel_rfl) (fun w' hSw => ?_) hS0 ?_
                · obtain ⟨hs1, hs2, hs3, hs4⟩ := hSw; go_simp
                simp only [List.setIfInBounds_toArray, List.set_cons_zero, List.set_cons_succ]
                refine B_takeD 32 61 (i := 20) (v := .pointer (some ⟨(bd.add (i * 4)).block, (bd.add (i * 4)).off + 1, none⟩)) rfl rfl (by kernel_rfl) (fun _ _ _ h => h) (by kernel_rfl) (fun w' hSw => ?_) hS0 ?_
                · obtain ⟨hs1, hs2, hs3, hs4⟩ := hSw; go_simp
                simp only [List.setIfInBounds_toArray, List.set_cons_zero, List.set_cons_succ]
                refine B_takeD 32 62 (i := 21) (v := .int .i64 x.n) rfl rfl (by kernel_rfl) (fun _ _ _ h => h) (by kernel_rfl) (fun w' hSw => ?_) hS0 ?_
                · obtain ⟨hs1, hs2, hs3, hs4⟩ := hSw; go_simp
                simp only [List.setIfInBounds_toArray, List.set_cons_zero, List.set_cons_succ]
                refine B_takeD 32 63 (i := 22) (v := .bool false) rfl rfl (by kernel_rfl) (fun _ _ _ h => h) (by kernel_rfl) (fun w' hSw => ?_) hS0 ?_
                · obtain ⟨hs1, hs2, hs3, hs4⟩ := hSw; go_simp
                simp only [List.setIfInBounds_toArray, List.set_cons_zero, List.set_cons_succ]
                refine B_takeD 32 64 (i := 23) (v := .bool false) rfl rfl (by kernel_rfl) (fun _ _ _ h => h) (by kernel_rfl) (fun w' hSw => ?_) hS0 ?_
                · obtain ⟨hs1, hs2, hs3, hs4⟩ := hSw; go_simp
                simp only [List.setIfInBounds_toArray, List.set_cons_zero, List.set_cons_succ]
                refine B_takeD 32 65 (i := 24) (v := .bool false) rfl rfl (by kernel_rfl) (fun _ _ _ h => h) (by kernel_rfl) (fun w' hSw => ?_) hS0 ?_
                · obtain ⟨hs1, hs2, hs3, hs4⟩ := hSw; go_simp
                simp only [List.setIfInBounds_toArray, List.set_cons_zero, List.set_cons_succ]
                refine B_takeD 32 66 (i := 25) (v := .bool true) rfl rfl (by kernel_rfl) (fun _ _ _ h => h) (by kernel_rfl) (fun w' hSw => ?_) hS0 ?_
                · obtain ⟨hs1, hs2, hs3, hs4⟩ := hSw; go_simp
                simp only [List.setIfInBounds_toArray, List.set_cons_zero, List.set_cons_succ]
                refine B_takeD 32 67 (i := 26) (v := .bool false) rfl rfl (by kernel_rfl) (fun _ _ _ h => h) (by kernel_rfl) (fun w' hSw => ?_) hS0 ?_
                · obtain ⟨hs1, hs2, hs3, hs4⟩ := hSw; go_simp
                simp only [List.setIfInBounds_toArray, List.set_cons_zero, List.set_cons_succ]
                refine B_takeD 32 68 (i := 27) (v := .bool false) rfl rfl (by kernel_rfl) (fun _ _ _ h => h) (by kernel_rfl) (fun w' hSw => ?_) hS0 ?_
                · obtain ⟨hs1, hs2, hs3, hs4⟩ := hSw; go_simp
                simp only [List.setIfInBounds_toArray, List.set_cons_zero, List.set_cons_succ]
                refine B_takeD 32 69 (i := 28) (v := .bool false) rfl rfl (by kernel_rfl) (fun _ _ _ h => h) (by kernel_rfl) (fun w' hSw => ?_) hS0 ?_
                · obtain ⟨hs1, hs2, hs3, hs4⟩ := hSw; go_simp
                simp only [List.setIfInBounds_toArray, List.set_cons_zero, List.set_cons_succ]
                refine B_takeD 32 70 (i := 29) (v := .bool false) rfl rfl (by kernel_rfl) (fun _ _ _ h => h) (by kernel_rfl) (fun w' hSw => ?_) hS0 ?_
                · obtain ⟨hs1, hs2, hs3, hs4⟩ := hSw; go_simp
                simp only [List.setIfInBounds_toArray, List.set_cons_zero, List.set_cons_succ]
                refine B_takeD 32 71 (i := 30) (v := .bool true) rfl rfl (by kernel_rfl) (fun _ _ _ h => h) (by kernel_rfl) (fun w' hSw => ?_) hS0 ?_
                · obtain ⟨hs1, hs2, hs3, hs4⟩ := hSw; go_simp
                simp only [List.setIfInBounds_toArray, List.set_cons_zero, List.set_cons_succ]
                refine B_takeD 32 72 (i := 31) (v := .bool true) rfl rfl (by kernel_rfl) (fun _ _ _ h => h) (by kernel_rfl) (fun w' hSw => ?_) hS0 ?_
                · obtain ⟨hs1, hs2, hs3, hs4⟩ := hSw; go_simp
                simp only [List.setIfInBounds_toArray, List.set_cons_zero, List.set_cons_succ]
                refine ⟨by kernel_rfl, ?_⟩
                clear hS0 x0' x1' y0' y1'
                go_wp2
                go_ret
                exact ⟨congrArg (fun x => Ending.returned (Value.bool x)) HNO.out.symm, below_step HB9.out (below_drew (Below.refl _ _))⟩
              | true =>
                rw [heq] at he1
                subst he1
                have HMO : Aside0 (xs.take (i + 1) = ys.take (i + 1)) := ⟨HEQ.out (pred_ext d0 d1 hep heq)⟩
                go_upto_region 8 with fail
                refine B_region (fun w' => w'.cell? (ad.add (i * 4)) = some (.int .i64 x.kind) ∧ w'.cell? ⟨(ad.add (i * 4)).block, (ad.add (i * 4)).off + 1, none⟩ = some (.int .i64 x.n) ∧ w'.cell? (bd.add (i * 4)) = some (.int .i64 x.kind) ∧ w'.cell? ⟨(bd.add (i * 4)).block, (bd.add (i * 4)).off + 1, none⟩ = some (.int .i64 x.n)) 32 (by kernel_rfl) ⟨x0', x1', y0', y1'⟩ (fun hS0 => ?_)
                refine B_takeD 32 41 (i := 0) (v := .slice (some ad) xs.length c) rfl rfl (by kernel_rfl) (fun _ _ _ h => h) (by kernel_rfl) (fun w' hSw => ?_) hS0 ?_
                · obtain ⟨hs1, hs2, hs3, hs4⟩ := hSw; go_simp
                simp only [List.setIfInBounds_toArray, List.set_cons_zero, List.set_cons_succ]
                refine B_takeD 32 42 (i := 1) (v := .int .i64 i) rfl rfl (by kernel_rfl) (fun _ _ _ h => h) (by kernel_rfl) (fun w' hSw => ?_) hS0 ?_
                · obtain ⟨hs1, hs2, hs3, hs4⟩ := hSw; go_simp
                simp only [List.setIfInBounds_toArray, List.set_cons_zero, List.set_cons_succ]
                refine B_takeD 32 43 (i := 2) (v := .pointer (some (ad.add (i * 4)))) rfl rfl (by kernel_rfl) (fun _ _ _ h => h) (by kernel_rfl) (fun w' hSw => ?_) hS0 ?_
                · obtain ⟨hs1, hs2, hs3, hs4⟩ := hSw; go_simp
                simp only [List.setIfInBounds_toArray, List.set_cons_zero, List.set_cons_succ]
                refine B_takeD 32 44 (i := 3) (v := .pointer (some (ad.add (i * 4)))) rfl rfl (by kernel_rfl) (fun _ _ _ h => h) (by kernel_rfl) (fun w' hSw => ?_) hS0 ?_
                · obtain ⟨hs1, hs2, hs3, hs4⟩ := hSw; go_simp
                simp only [List.setIfInBounds_toArray, List.set_cons_zero, List.set_cons_succ]
                refine B_takeD 32 45 (i := 4) (v := .int .i64 x.kind) rfl rfl (by kernel_rfl) (fun _ _ _ h => h) (by kernel_rfl) (fun w' hSw => ?_) hS0 ?_
                · obtain ⟨hs1, hs2, hs3, hs4⟩ := hSw; go_simp
                simp only [List.setIfInBounds_toArray, List.set_cons_zero, List.set_cons_succ]
                refine B_takeD 32 46 (i := 5) (v := .slice (some bd) xs.length d) rfl rfl (by kernel_rfl) (fun _ _ _ h => h) (by kernel_rfl) (fun w' hSw => ?_) hS0 ?_
                · obtain ⟨hs1, hs2, hs3, hs4⟩ := hSw; go_simp
                simp only [List.setIfInBounds_toArray, List.set_cons_zero, List.set_cons_succ]
                refine B_takeD 32 47 (i := 6) (v := .int .i64 i) rfl rfl (by kernel_rfl) (fun _ _ _ h => h) (by kernel_rfl) (fun w' hSw => ?_) hS0 ?_
                · obtain ⟨hs1, hs2, hs3, hs4⟩ := hSw; go_simp
                simp only [List.setIfInBounds_toArray, List.set_cons_zero, List.set_cons_succ]
                refine B_takeD 32 48 (i := 7) (v := .pointer (some (bd.add (i * 4)))) rfl rfl (by kernel_rfl) (fun _ _ _ h => h) (by kernel_rfl) (fun w' hSw => ?_) hS0 ?_
                · obtain ⟨hs1, hs2, hs3, hs4⟩ := hSw; go_simp
                simp only [List.setIfInBounds_toArray, List.set_cons_zero, List.set_cons_succ]
                refine B_takeD 32 49 (i := 8) (v := .pointer (some (bd.add (i * 4)))) rfl rfl (by kernel_rfl) (fun _ _ _ h => h) (by kernel_rfl) (fun w' hSw => ?_) hS0 ?_
                · obtain ⟨hs1, hs2, hs3, hs4⟩ := hSw; go_simp
                simp only [List.setIfInBounds_toArray, List.set_cons_zero, List.set_cons_succ]
                refine B_takeD 32 50 (i := 9) (v := .int .i64 x.kind) rfl rfl (by kernel_rfl) (fun _ _ _ h => h) (by kernel_rfl) (fun w' hSw => ?_) hS0 ?_
                · obtain ⟨hs1, hs2, hs3, hs4⟩ := hSw; go_simp
                simp only [List.setIfInBounds_toArray, List.set_cons_zero, List.set_cons_succ]
                refine B_takeD 32 51 (i := 10) (v := .bool false) rfl rfl (by kernel_rfl) (fun _ _ _ h => h) (by kernel_rfl) (fun w' hSw => ?_) hS0 ?_
                · obtain ⟨hs1, hs2, hs3, hs4⟩ := hSw; go_simp
                simp only [List.setIfInBounds_toArray, List.set_cons_zero, List.set_cons_succ]
                refine B_takeD 32 52 (i := 11) (v := .bool false) rfl rfl (by kernel_rfl) (fun _ _ _ h => h) (by kernel_rfl) (fun w' hSw => ?_) hS0 ?_
                · obtain ⟨hs1, hs2, hs3, hs4⟩ := hSw; go_simp
                simp only [List.setIfInBounds_toArray, List.set_cons_zero, List.set_cons_succ]
                refine B_takeD 32 53 (i := 12) (v := .slice (some ad) xs.length c) rfl rfl (by kernel_rfl) (fun _ _ _ h => h) (by kernel_rfl) (fun w' hSw => ?_) hS0 ?_
                · obtain ⟨hs1, hs2, hs3, hs4⟩ := hSw; go_simp
                simp only [List.setIfInBounds_toArray, List.set_cons_zero, List.set_cons_succ]
                refine B_takeD 32 54 (i := 13) (v := .int .i64 i) rfl rfl (by kernel_rfl) (fun _ _ _ h => h) (by kernel_rfl) (fun w' hSw => ?_) hS0 ?_
                · obtain ⟨hs1, hs2, hs3, hs4⟩ := hSw; go_simp
                simp only [List.setIfInBounds_toArray, List.set_cons_zero, List.set_cons_succ]
                refine B_takeD 32 55 (i := 14) (v := .pointer (some (ad.add (i * 4)))) rfl rfl (by kernel_rfl) (fun _ _ _ h => h) (by kernel_rfl) (fun w' hSw => ?_) hS0 ?_
                · obtain ⟨hs1, hs2, hs3, hs4⟩ := hSw; go_simp
                simp only [List.setIfInBounds_toArray, List.set_cons_zero, List.set_cons_succ]
                refine B_takeD 32 56 (i := 15) (v := .pointer (some ⟨(ad.add (i * 4)).block, (ad.add (i * 4)).off + 1, none⟩)) rfl rfl (by kernel_rfl) (fun _ _ _ h => h) (by kernel_rfl) (fun w' hSw => ?_) hS0 ?_
                · obtain ⟨hs1, hs2, hs3, hs4⟩ := hSw; go_simp
                simp only [List.setIfInBounds_toArray, List.set_cons_zero, List.set_cons_succ]
                refine B_takeD 32 57 (i := 16) (v := .int .i64 x.n) rfl rfl (by kernel_rfl) (fun _ _ _ h => h) (by kernel_rfl) (fun w' hSw => ?_) hS0 ?_
                · obtain ⟨hs1, hs2, hs3, hs4⟩ := hSw; go_simp
                simp only [List.setIfInBounds_toArray, List.set_cons_zero, List.set_cons_succ]
                refine B_takeD 32 58 (i := 17) (v := .slice (some bd) xs.length d) rfl rfl (by kernel_rfl) (fun _ _ _ h => h) (by kernel_rfl) (fun w' hSw => ?_) hS0 ?_
                · obtain ⟨hs1, hs2, hs3, hs4⟩ := hSw; go_simp
                simp only [List.setIfInBounds_toArray, List.set_cons_zero, List.set_cons_succ]
                refine B_takeD 32 59 (i := 18) (v := .int .i64 i) rfl rfl (by kernel_rfl) (fun _ _ _ h => h) (by kernel_rfl) (fun w' hSw => ?_) hS0 ?_
                · obtain ⟨hs1, hs2, hs3, hs4⟩ := hSw; go_simp
                simp only [List.setIfInBounds_toArray, List.set_cons_zero, List.set_cons_succ]
                refine B_takeD 32 60 (i := 19) (v := .pointer (some (bd.add (i * 4)))) rfl rfl (by kernel_rfl) (fun _ _ _ h => h) (by kernel_rfl) (fun w' hSw => ?_) hS0 ?_
                · obtain ⟨hs1, hs2, hs3, hs4⟩ := hSw; go_simp
                simp only [List.setIfInBounds_toArray, List.set_cons_zero, List.set_cons_succ]
                refine B_takeD 32 61 (i := 20) (v := .pointer (some ⟨(bd.add (i * 4)).block, (bd.add (i * 4)).off + 1, none⟩)) rfl rfl (by kernel_rfl) (fun _ _ _ h => h) (by kernel_rfl) (fun w' hSw => ?_) hS0 ?_
                · obtain ⟨hs1, hs2, hs3, hs4⟩ := hSw; go_simp
                simp only [List.setIfInBounds_toArray, List.set_cons_zero, List.set_cons_succ]
                refine B_takeD 32 62 (i := 21) (v := .int .i64 x.n) rfl rfl (by kernel_rfl) (fun _ _ _ h => h) (by kernel_rfl) (fun w' hSw => ?_) hS0 ?_
                · obtain ⟨hs1, hs2, hs3, hs4⟩ := hSw; go_simp
                simp only [List.setIfInBounds_toArray, List.set_cons_zero, List.set_cons_succ]
                refine B_takeD 32 63 (i := 22) (v := .bool false) rfl rfl (by kernel_rfl) (fun _ _ _ h => h) (by kernel_rfl) (fun w' hSw => ?_) hS0 ?_
                · obtain ⟨hs1, hs2, hs3, hs4⟩ := hSw; go_simp
                simp only [List.setIfInBounds_toArray, List.set_cons_zero, List.set_cons_succ]
                refine B_takeD 32 64 (i := 23) (v := .bool false) rfl rfl (by kernel_rfl) (fun _ _ _ h => h) (by kernel_rfl) (fun w' hSw => ?_) hS0 ?_
                · obtain ⟨hs1, hs2, hs3, hs4⟩ := hSw; go_simp
                simp only [List.setIfInBounds_toArray, List.set_cons_zero, List.set_cons_succ]
                refine B_takeD 32 65 (i := 24) (v := .bool false) rfl rfl (by kernel_rfl) (fun _ _ _ h => h) (by kernel_rfl) (fun w' hSw => ?_) hS0 ?_
                · obtain ⟨hs1, hs2, hs3, hs4⟩ := hSw; go_simp
                simp only [List.setIfInBounds_toArray, List.set_cons_zero, List.set_cons_succ]
                refine B_takeD 32 66 (i := 25) (v := .bool true) rfl rfl (by kernel_rfl) (fun _ _ _ h => h) (by kernel_rfl) (fun w' hSw => ?_) hS0 ?_
                · obtain ⟨hs1, hs2, hs3, hs4⟩ := hSw; go_simp
                simp only [List.setIfInBounds_toArray, List.set_cons_zero, List.set_cons_succ]
                refine B_takeD 32 67 (i := 26) (v := .bool false) rfl rfl (by kernel_rfl) (fun _ _ _ h => h) (by kernel_rfl) (fun w' hSw => ?_) hS0 ?_
                · obtain ⟨hs1, hs2, hs3, hs4⟩ := hSw; go_simp
                simp only [List.setIfInBounds_toArray, List.set_cons_zero, List.set_cons_succ]
                refine B_takeD 32 68 (i := 27) (v := .bool false) rfl rfl (by kernel_rfl) (fun _ _ _ h => h) (by kernel_rfl) (fun w' hSw => ?_) hS0 ?_
                · obtain ⟨hs1, hs2, hs3, hs4⟩ := hSw; go_simp
                simp only [List.setIfInBounds_toArray, List.set_cons_zero, List.set_cons_succ]
                refine B_takeD 32 69 (i := 28) (v := .bool false) rfl rfl (by kernel_rfl) (fun _ _ _ h => h) (by kernel_rfl) (fun w' hSw => ?_) hS0 ?_
                · obtain ⟨hs1, hs2, hs3, hs4⟩ := hSw; go_simp
                simp only [List.setIfInBounds_toArray, List.set_cons_zero, List.set_cons_succ]
                refine B_takeD 32 70 (i := 29) (v := .bool true) rfl rfl (by kernel_rfl) (fun _ _ _ h => h) (by kernel_rfl) (fun w' hSw => ?_) hS0 ?_
                · obtain ⟨hs1, hs2, hs3, hs4⟩ := hSw; go_simp
                simp only [List.setIfInBounds_toArray, List.set_cons_zero, List.set_cons_succ]
                refine B_takeD 32 71 (i := 30) (v := .bool false) rfl rfl (by kernel_rfl) (fun _ _ _ h => h) (by kernel_rfl) (fun w' hSw => ?_) hS0 ?_
                · obtain ⟨hs1, hs2, hs3, hs4⟩ := hSw; go_simp
                simp only [List.setIfInBounds_toArray, List.set_cons_zero, List.set_cons_succ]
                refine B_takeD 32 72 (i := 31) (v := .bool false) rfl rfl (by kernel_rfl) (fun _ _ _ h => h) (by kernel_rfl) (fun w' hSw => ?_) hS0 ?_
                · obtain ⟨hs1, hs2, hs3, hs4⟩ := hSw; go_simp
                simp only [List.setIfInBounds_toArray, List.set_cons_zero, List.set_cons_succ]
                refine ⟨by kernel_rfl, ?_⟩
                clear hS0 x0' x1' y0' y1'
                go_wp2
                go_roundg (xs.length - (i + 1))
                case rel => exact ⟨i + 1, by go_num, by omega, by omega, ⟨below_step HB9.out (below_drew (Below.refl _ _)), HMO.out⟩⟩
                case measure => omega
          · have HNO : Aside0 (eqB xs ys = false) := ⟨HNE.out (fun e => d1 (by rw [e]))⟩
            go_upto_region 8 with fail
            refine B_region (fun w' => w'.cell? (ad.add (i * 4)) = some (.int .i64 x.kind) ∧ w'.cell? ⟨(ad.add (i * 4)).block, (ad.add (i * 4)).off + 1, none⟩ = some (.int .i64 x.n) ∧ w'.cell? (bd.add (i * 4)) = some (.int .i64 x.kind) ∧ w'.cell? ⟨(bd.add (i * 4)).block, (bd.add (i * 4)).off + 1, none⟩ = some (.int .i64 y.n)) 32 (by kernel_rfl) ⟨x0', x1', y0', y1'⟩ (fun hS0 => ?_)
            refine B_takeD 32 41 (i := 0) (v := .slice (some ad) xs.length c) rfl rfl (by kernel_rfl) (fun _ _ _ h => h) (by kernel_rfl) (fun w' hSw => ?_) hS0 ?_
            · obtain ⟨hs1, hs2, hs3, hs4⟩ := hSw; go_simp
            simp only [List.setIfInBounds_toArray, List.set_cons_zero, List.set_cons_succ]
            refine B_takeD 32 42 (i := 1) (v := .int .i64 i) rfl rfl (by kernel_rfl) (fun _ _ _ h => h) (by kernel_rfl) (fun w' hSw => ?_) hS0 ?_
            · obtain ⟨hs1, hs2, hs3, hs4⟩ := hSw; go_simp
            simp only [List.setIfInBounds_toArray, List.set_cons_zero, List.set_cons_succ]
            refine B_takeD 32 43 (i := 2) (v := .pointer (some (ad.add (i * 4)))) rfl rfl (by kernel_rfl) (fun _ _ _ h => h) (by kernel_rfl) (fun w' hSw => ?_) hS0 ?_
            · obtain ⟨hs1, hs2, hs3, hs4⟩ := hSw; go_simp
            simp only [List.setIfInBounds_toArray, List.set_cons_zero, List.set_cons_succ]
            refine B_takeD 32 44 (i := 3) (v := .pointer (some (ad.add (i * 4)))) rfl rfl (by kernel_rfl) (fun _ _ _ h => h) (by kernel_rfl) (fun w' hSw => ?_) hS0 ?_
            · obtain ⟨hs1, hs2, hs3, hs4⟩ := hSw; go_simp
            simp only [List.setIfInBounds_toArray, List.set_cons_zero, List.set_cons_succ]
            refine B_takeD 32 45 (i := 4) (v := .int .i64 x.kind) rfl rfl (by kernel_rfl) (fun _ _ _ h => h) (by kernel_rfl) (fun w' hSw => ?_) hS0 ?_
            · obtain ⟨hs1, hs2, hs3, hs4⟩ := hSw; go_simp
            simp only [List.setIfInBounds_toArray, List.set_cons_zero, List.set_cons_succ]
            refine B_takeD 32 46 (i := 5) (v := .slice (some bd) xs.length d) rfl rfl (by kernel_rfl) (fun _ _ _ h => h) (by kernel_rfl) (fun w' hSw => ?_) hS0 ?_
            · obtain ⟨hs1, hs2, hs3, hs4⟩ := hSw; go_simp
            simp only [List.setIfInBounds_toArray, List.set_cons_zero, List.set_cons_succ]
            refine B_takeD 32 47 (i := 6) (v := .int .i64 i) rfl rfl (by kernel_rfl) (fun _ _ _ h => h) (by kernel_rfl) (fun w' hSw => ?_) hS0 ?_
            · obtain ⟨hs1, hs2, hs3, hs4⟩ := hSw; go_simp
            simp only [List.setIfInBounds_toArray, List.set_cons_zero, List.set_cons_succ]
            refine B_takeD 32 48 (i := 7) (v := .pointer (some (bd.add (i * 4)))) rfl rfl (by kernel_rfl) (fun _ _ _ h => h) (by kernel_rfl) (fun w' hSw => ?_) hS0 ?_
            · obtain ⟨hs1, hs2, hs3, hs4⟩ := hSw; go_simp
            simp only [List.setIfInBounds_toArray, List.set_cons_zero, List.set_cons_succ]
            refine B_takeD 32 49 (i := 8) (v := .pointer (some (bd.add (i * 4)))) rfl rfl (by kernel_rfl) (fun _ _ _ h => h) (by kernel_rfl) (fun w' hSw => ?_) hS0 ?_
            · obtain ⟨hs1, hs2, hs3, hs4⟩ := hSw; go_simp
            simp only [List.setIfInBounds_toArray, List.set_cons_zero, List.set_cons_succ]
            refine B_takeD 32 50 (i := 9) (v := .int .i64 x.kind) rfl rfl (by kernel_rfl) (fun _ _ _ h => h) (by kernel_rfl) (fun w' hSw => ?_) hS0 ?_
            · obtain ⟨hs1, hs2, hs3, hs4⟩ := hSw; go_simp
            simp only [List.setIfInBounds_toArray, List.set_cons_zero, List.set_cons_succ]
            refine B_takeD 32 51 (i := 10) (v := .bool false) rfl rfl (by kernel_rfl) (fun _ _ _ h => h) (by kernel_rfl) (fun w' hSw => ?_) hS0 ?_
            · obtain ⟨hs1, hs2, hs3, hs4⟩ := hSw; go_simp
            simp only [List.setIfInBounds_toArray, List.set_cons_zero, List.set_cons_succ]
            refine B_takeD 32 52 (i := 11) (v := .bool false) rfl rfl (by kernel_rfl) (fun _ _ _ h => h) (by kernel_rfl) (fun w' hSw => ?_) hS0 ?_
            · obtain ⟨hs1, hs2, hs3, hs4⟩ := hSw; go_simp
            simp only [List.setIfInBounds_toArray, List.set_cons_zero, List.set_cons_succ]
            refine B_takeD 32 53 (i := 12) (v := .slice (some ad) xs.length c) rfl rfl (by kernel_rfl) (fun _ _ _ h => h) (by kernel_rfl) (fun w' hSw => ?_) hS0 ?_
            · obtain ⟨hs1, hs2, hs3, hs4⟩ := hSw; go_simp
            simp only [List.setIfInBounds_toArray, List.set_cons_zero, List.set_cons_succ]
            refine B_takeD 32 54 (i := 13) (v := .int .i64 i) rfl rfl (by kernel_rfl) (fun _ _ _ h => h) (by kernel_rfl) (fun w' hSw => ?_) hS0 ?_
            · obtain ⟨hs1, hs2, hs3, hs4⟩ := hSw; go_simp
            simp only [List.setIfInBounds_toArray, List.set_cons_zero, List.set_cons_succ]
            refine B_takeD 32 55 (i := 14) (v := .pointer (some (ad.add (i * 4)))) rfl rfl (by kernel_rfl) (fun _ _ _ h => h) (by kernel_rfl) (fun w' hSw => ?_) hS0 ?_
            · obtain ⟨hs1, hs2, hs3, hs4⟩ := hSw; go_simp
            simp only [List.setIfInBounds_toArray, List.set_cons_zero, List.set_cons_succ]
            refine B_takeD 32 56 (i := 15) (v := .pointer (some ⟨(ad.add (i * 4)).block, (ad.add (i * 4)).off + 1, none⟩)) rfl rfl (by kernel_rfl) (fun _ _ _ h => h) (by kernel_rfl) (fun w' hSw => ?_) hS0 ?_
            · obtain ⟨hs1, hs2, hs3, hs4⟩ := hSw; go_simp
            simp only [List.setIfInBounds_toArray, List.set_cons_zero, List.set_cons_succ]
            refine B_takeD 32 57 (i := 16) (v := .int .i64 x.n) rfl rfl (by kernel_rfl) (fun _ _ _ h => h) (by kernel_rfl) (fun w' hSw => ?_) hS0 ?_
            · obtain ⟨hs1, hs2, hs3, hs4⟩ := hSw; go_simp
            simp only [List.setIfInBounds_toArray, List.set_cons_zero, List.set_cons_succ]
            refine B_takeD 32 58 (i := 17) (v := .slice (some bd) xs.length d) rfl rfl (by kernel_rfl) (fun _ _ _ h => h) (by kernel_rfl) (fun w' hSw => ?_) hS0 ?_
            · obtain ⟨hs1, hs2, hs3, hs4⟩ := hSw; go_simp
            simp only [List.setIfInBounds_toArray, List.set_cons_zero, List.set_cons_succ]
            refine B_takeD 32 59 (i := 18) (v := .int .i64 i) rfl rfl (by kernel_rfl) (fun _ _ _ h => h) (by kernel_rfl) (fun w' hSw => ?_) hS0 ?_
            · obtain ⟨hs1, hs2, hs3, hs4⟩ := hSw; go_simp
            simp only [List.setIfInBounds_toArray, List.set_cons_zero, List.set_cons_succ]
            refine B_takeD 32 60 (i := 19) (v := .pointer (some (bd.add (i * 4)))) rfl rfl (by kernel_rfl) (fun _ _ _ h => h) (by kernel_rfl) (fun w' hSw => ?_) hS0 ?_
            · obtain ⟨hs1, hs2, hs3, hs4⟩ := hSw; go_simp
            simp only [List.setIfInBounds_toArray, List.set_cons_zero, List.set_cons_succ]
            refine B_takeD 32 61 (i := 20) (v := .pointer (some ⟨(bd.add (i * 4)).block, (bd.add (i * 4)).off + 1, none⟩)) rfl rfl (by kernel_rfl) (fun _ _ _ h => h) (by kernel_rfl) (fun w' hSw => ?_) hS0 ?_
            · obtain ⟨hs1, hs2, hs3, hs4⟩ := hSw; go_simp
            simp only [List.setIfInBounds_toArray, List.set_cons_zero, List.set_cons_succ]
            refine B_takeD 32 62 (i := 21) (v := .int .i64 y.n) rfl rfl (by kernel_rfl) (fun _ _ _ h => h) (by kernel_rfl) (fun w' hSw => ?_) hS0 ?_
            · obtain ⟨hs1, hs2, hs3, hs4⟩ := hSw; go_simp
            simp only [List.setIfInBounds_toArray, List.set_cons_zero, List.set_cons_succ]
            refine B_takeD 32 63 (i := 22) (v := .bool true) rfl rfl (by kernel_rfl) (fun _ _ _ h => h) (by kernel_rfl) (fun w' hSw => ?_) hS0 ?_
            · obtain ⟨hs1, hs2, hs3, hs4⟩ := hSw; go_simp
            simp only [List.setIfInBounds_toArray, List.set_cons_zero, List.set_cons_succ]
            refine B_takeD 32 64 (i := 23) (v := .bool true) rfl rfl (by kernel_rfl) (fun _ _ _ h => h) (by kernel_rfl) (fun w' hSw => ?_) hS0 ?_
            · obtain ⟨hs1, hs2, hs3, hs4⟩ := hSw; go_simp
            simp only [List.setIfInBounds_toArray, List.set_cons_zero, List.set_cons_succ]
            refine B_takeD 32 65 (i := 24) (v := .bool true) rfl rfl (by kernel_rfl) (fun _ _ _ h => h) (by kernel_rfl) (fun w' hSw => ?_) hS0 ?_
            · obtain ⟨hs1, hs2, hs3, hs4⟩ := hSw; go_simp
            simp only [List.setIfInBounds_toArray, List.set_cons_zero, List.set_cons_succ]
            refine B_skipD 32 66 (i := 25) rfl rfl (by kernel_rfl) (fun _ _ _ h => h) (by kernel_rfl) hS0 ?_
            simp only [List.setIfInBounds_toArray, List.set_cons_zero, List.set_cons_succ]
            refine B_skipD 32 67 (i := 26) rfl rfl (by kernel_rfl) (fun _ _ _ h => h) (by kernel_rfl) hS0 ?_
            simp only [List.setIfInBounds_toArray, List.set_cons_zero, List.set_cons_succ]
            refine B_takeD 32 68 (i := 27) (v := .bool true) rfl rfl (by kernel_rfl) (fun _ _ _ h => h) (by kernel_rfl) (fun w' hSw => ?_) hS0 ?_
            · obtain ⟨hs1, hs2, hs3, hs4⟩ := hSw; go_simp
            simp only [List.setIfInBounds_toArray, List.set_cons_zero, List.set_cons_succ]
            refine B_takeD 32 69 (i := 28) (v := .bool true) rfl rfl (by kernel_rfl) (fun _ _ _ h => h) (by kernel_rfl) (fun w' hSw => ?_) hS0 ?_
            · obtain ⟨hs1, hs2, hs3, hs4⟩ := hSw; go_simp
            simp only [List.setIfInBounds_toArray, List.set_cons_zero, List.set_cons_succ]
            refine B_skipD 32 70 (i := 29) rfl rfl (by kernel_rfl) (fun _ _ _ h => h) (by kernel_rfl) hS0 ?_
            simp only [List.setIfInBounds_toArray, List.set_cons_zero, List.set_cons_succ]
            refine B_skipD 32 71 (i := 30) rfl rfl (by kernel_rfl) (fun _ _ _ h => h) (by kernel_rfl) hS0 ?_
            simp only [List.setIfInBounds_toArray, List.set_cons_zero, List.set_cons_succ]
            refine B_takeD 32 72 (i := 31) (v := .bool true) rfl rfl (by kernel_rfl) (fun _ _ _ h => h) (by kernel_rfl) (fun w' hSw => ?_) hS0 ?_
            · obtain ⟨hs1, hs2, hs3, hs4⟩ := hSw; go_simp
            simp only [List.setIfInBounds_toArray, List.set_cons_zero, List.set_cons_succ]
            refine ⟨by kernel_rfl, ?_⟩
            clear hS0 x0' x1' y0' y1'
            go_wp2
            go_ret
            exact ⟨congrArg (fun x => Ending.returned (Value.bool x)) HNO.out.symm, below_step HB9.out (below_drew (Below.refl _ _))⟩
        · have HNO : Aside0 (eqB xs ys = false) := ⟨HNE.out (fun e => d0 (by rw [e]))⟩
          go_upto_region 8 with fail
          refine B_region (fun w' => w'.cell? (ad.add (i * 4)) = some (.int .i64 x.kind) ∧ w'.cell? ⟨(ad.add (i * 4)).block, (ad.add (i * 4)).off + 1, none⟩ = some (.int .i64 x.n) ∧ w'.cell? (bd.add (i * 4)) = some (.int .i64 y.kind) ∧ w'.cell? ⟨(bd.add (i * 4)).block, (bd.add (i * 4)).off + 1, none⟩ = some (.int .i64 y.n)) 32 (by kernel_rfl) ⟨x0', x1', y0', y1'⟩ (fun hS0 => ?_)
          refine B_takeD 32 41 (i := 0) (v := .slice (some ad) xs.length c) rfl rfl (by kernel_rfl) (fun _ _ _ h => h) (by kernel_rfl) (fun w' hSw => ?_) hS0 ?_
          · obtain ⟨hs1, hs2, hs3, hs4⟩ := hSw; go_simp
          simp only [List.setIfInBounds_toArray, List.set_cons_zero, List.set_cons_succ]
          refine B_takeD 32 42 (i := 1) (v := .int .i64 i) rfl rfl (by kernel_rfl) (fun _ _ _ h => h) (by kernel_rfl) (fun w' hSw => ?_) hS0 ?_
          · obtain ⟨hs1, hs2, hs3, hs4⟩ := hSw; go_simp
          simp only [List.setIfInBounds_toArray, List.set_cons_zero, List.set_cons_succ]
          refine B_takeD 32 43 (i := 2) (v := .pointer (some (ad.add (i * 4)))) rfl rfl (by kernel_rfl) (fun _ _ _ h => h) (by kernel_rfl) (fun w' hSw => ?_) hS0 ?_
          · obtain ⟨hs1, hs2, hs3, hs4⟩ := hSw; go_simp
          simp only [List.setIfInBounds_toArray, List.set_cons_zero, List.set_cons_succ]
          refine B_takeD 32 44 (i := 3) (v := .pointer (some (ad.add (i * 4)))) rfl rfl (by kernel_rfl) (fun _ _ _ h => h) (by kernel_rfl) (fun w' hSw => ?_) hS0 ?_
          · obtain ⟨hs1, hs2, hs3, hs4⟩ := hSw; go_simp
          simp only [List.setIfInBounds_toArray, List.set_cons_zero, List.set_cons_succ]
          refine B_takeD 32 45 (i := 4) (v := .int .i64 x.kind) rfl rfl (by kernel_rfl) (fun _ _ _ h => h) (by kernel_rfl) (fun w' hSw => ?_) hS0 ?_
          · obtain ⟨hs1, hs2, hs3, hs4⟩ := hSw; go_simp
          simp only [List.setIfInBounds_toArray, List.set_cons_zero, List.set_cons_succ]
          refine B_takeD 32 46 (i := 5) (v := .slice (some bd) xs.length d) rfl rfl (by kernel_rfl) (fun _ _ _ h => h) (by kernel_rfl) (fun w' hSw => ?_) hS0 ?_
          · obtain ⟨hs1, hs2, hs3, hs4⟩ := hSw; go_simp
          simp only [List.setIfInBounds_toArray, List.set_cons_zero, List.set_cons_succ]
          refine B_takeD 32 47 (i := 6) (v := .int .i64 i) rfl rfl (by kernel_rfl) (fun _ _ _ h => h) (by kernel_rfl) (fun w' hSw => ?_) hS0 ?_
          · obtain ⟨hs1, hs2, hs3, hs4⟩ := hSw; go_simp
          simp only [List.setIfInBounds_toArray, List.set_cons_zero, List.set_cons_succ]
          refine B_takeD 32 48 (i := 7) (v := .pointer (some (bd.add (i * 4)))) rfl rfl (by kernel_rfl) (fun _ _ _ h => h) (by kernel_rfl) (fun w' hSw => ?_) hS0 ?_
          · obtain ⟨hs1, hs2, hs3, hs4⟩ := hSw; go_simp
          simp only [List.setIfInBounds_toArray, List.set_cons_zero, List.set_cons_succ]
          refine B_takeD 32 49 (i := 8) (v := .pointer (some (bd.add (i * 4)))) rfl rfl (by kernel_rfl) (fun _ _ _ h => h) (by kernel_rfl) (fun w' hSw => ?_) hS0 ?_
          · obtain ⟨hs1, hs2, hs3, hs4⟩ := hSw; go_simp
          simp only [List.setIfInBounds_toArray, List.set_cons_zero, List.set_cons_succ]
          refine B_takeD 32 50 (i := 9) (v := .int .i64 y.kind) rfl rfl (by kernel_rfl) (fun _ _ _ h => h) (by kernel_rfl) (fun w' hSw => ?_) hS0 ?_
          · obtain ⟨hs1, hs2, hs3, hs4⟩ := hSw; go_simp
          simp only [List.setIfInBounds_toArray, List.set_cons_zero, List.set_cons_succ]
          refine B_takeD 32 51 (i := 10) (v := .bool true) rfl rfl (by kernel_rfl) (fun _ _ _ h => h) (by kernel_rfl) (fun w' hSw => ?_) hS0 ?_
          · obtain ⟨hs1, hs2, hs3, hs4⟩ := hSw; go_simp
          simp only [List.setIfInBounds_toArray, List.set_cons_zero, List.set_cons_succ]
          refine B_takeD 32 52 (i := 11) (v := .bool true) rfl rfl (by kernel_rfl) (fun _ _ _ h => h) (by kernel_rfl) (fun w' hSw => ?_) hS0 ?_
          · obtain ⟨hs1, hs2, hs3, hs4⟩ := hSw; go_simp
          simp only [List.setIfInBounds_toArray, List.set_cons_zero, List.set_cons_succ]
          refine B_skipD 32 53 (i := 12) rfl rfl (by kernel_rfl) (fun _ _ _ h => h) (by kernel_rfl) hS0 ?_
          simp only [List.setIfInBounds_toArray, List.set_cons_zero, List.set_cons_succ]
          refine B_skipD 32 54 (i := 13) rfl rfl (by kernel_rfl) (fun _ _ _ h => h) (by kernel_rfl) hS0 ?_
          simp only [List.setIfInBounds_toArray, List.set_cons_zero, List.set_cons_succ]
          refine B_skipD 32 55 (i := 14) rfl rfl (by kernel_rfl) (fun _ _ _ h => h) (by kernel_rfl) hS0 ?_
          simp only [List.setIfInBounds_toArray, List.set_cons_zero, List.set_cons_succ]
          refine B_skipD 32 56 (i := 15) rfl rfl (by kernel_rfl) (fun _ _ _ h => h) (by kernel_rfl) hS0 ?_
          simp only [List.setIfInBounds_toArray, List.set_cons_zero, List.set_cons_succ]
          refine B_skipD 32 57 (i := 16) rfl rfl (by kernel_rfl) (fun _ _ _ h => h) (by kernel_rfl) hS0 ?_
          simp only [List.setIfInBounds_toArray, List.set_cons_zero, List.set_cons_succ]
          refine B_skipD 32 58 (i := 17) rfl rfl (by kernel_rfl) (fun _ _ _ h => h) (by kernel_rfl) hS0 ?_
          simp only [List.setIfInBounds_toArray, List.set_cons_zero, List.set_cons_succ]
          refine B_skipD 32 59 (i := 18) rfl rfl (by kernel_rfl) (fun _ _ _ h => h) (by kernel_rfl) hS0 ?_
          simp only [List.setIfInBounds_toArray, List.set_cons_zero, List.set_cons_succ]
          refine B_skipD 32 60 (i := 19) rfl rfl (by kernel_rfl) (fun _ _ _ h => h) (by kernel_rfl) hS0 ?_
          simp only [List.setIfInBounds_toArray, List.set_cons_zero, List.set_cons_succ]
          refine B_skipD 32 61 (i := 20) rfl rfl (by kernel_rfl) (fun _ _ _ h => h) (by kernel_rfl) hS0 ?_
          simp only [List.setIfInBounds_toArray, List.set_cons_zero, List.set_cons_succ]
          refine B_skipD 32 62 (i := 21) rfl rfl (by kernel_rfl) (fun _ _ _ h => h) (by kernel_rfl) hS0 ?_
          simp only [List.setIfInBounds_toArray, List.set_cons_zero, List.set_cons_succ]
          refine B_skipD 32 63 (i := 22) rfl rfl (by kernel_rfl) (fun _ _ _ h => h) (by kernel_rfl) hS0 ?_
          simp only [List.setIfInBounds_toArray, List.set_cons_zero, List.set_cons_succ]
          refine B_takeD 32 64 (i := 23) (v := .bool true) rfl rfl (by kernel_rfl) (fun _ _ _ h => h) (by kernel_rfl) (fun w' hSw => ?_) hS0 ?_
          · obtain ⟨hs1, hs2, hs3, hs4⟩ := hSw; go_simp
          simp only [List.setIfInBounds_toArray, List.set_cons_zero, List.set_cons_succ]
          refine B_takeD 32 65 (i := 24) (v := .bool true) rfl rfl (by kernel_rfl) (fun _ _ _ h => h) (by kernel_rfl) (fun w' hSw => ?_) hS0 ?_
          · obtain ⟨hs1, hs2, hs3, hs4⟩ := hSw; go_simp
          simp only [List.setIfInBounds_toArray, List.set_cons_zero, List.set_cons_succ]
          refine B_skipD 32 66 (i := 25) rfl rfl (by kernel_rfl) (fun _ _ _ h => h) (by kernel_rfl) hS0 ?_
          simp only [List.setIfInBounds_toArray, List.set_cons_zero, List.set_cons_succ]
          refine B_skipD 32 67 (i := 26) rfl rfl (by kernel_rfl) (fun _ _ _ h => h) (by kernel_rfl) hS0 ?_
          simp only [List.setIfInBounds_toArray, List.set_cons_zero, List.set_cons_succ]
          refine B_takeD 32 68 (i := 27) (v := .bool true) rfl rfl (by kernel_rfl) (fun _ _ _ h => h) (by kernel_rfl) (fun w' hSw => ?_) hS0 ?_
          · obtain ⟨hs1, hs2, hs3, hs4⟩ := hSw; go_simp
          simp only [List.setIfInBounds_toArray, List.set_cons_zero, List.set_cons_succ]
          refine B_takeD 32 69 (i := 28) (v := .bool true) rfl rfl (by kernel_rfl) (fun _ _ _ h => h) (by kernel_rfl) (fun w' hSw => ?_) hS0 ?_
          · obtain ⟨hs1, hs2, hs3, hs4⟩ := hSw; go_simp
          simp only [List.setIfInBounds_toArray, List.set_cons_zero, List.set_cons_succ]
          refine B_skipD 32 70 (i := 29) rfl rfl (by kernel_rfl) (fun _ _ _ h => h) (by kernel_rfl) hS0 ?_
          simp only [List.setIfInBounds_toArray, List.set_cons_zero, List.set_cons_succ]
          refine B_skipD 32 71 (i := 30) rfl rfl (by kernel_rfl) (fun _ _ _ h => h) (by kernel_rfl) hS0 ?_
          simp only [List.setIfInBounds_toArray, List.set_cons_zero, List.set_cons_succ]
          refine B_takeD 32 72 (i := 31) (v := .bool true) rfl rfl (by kernel_rfl) (fun _ _ _ h => h) (by kernel_rfl) (fun w' hSw => ?_) hS0 ?_
          · obtain ⟨hs1, hs2, hs3, hs4⟩ := hSw; go_simp
          simp only [List.setIfInBounds_toArray, List.set_cons_zero, List.set_cons_succ]
          refine ⟨by kernel_rfl, ?_⟩
          clear hS0 x0' x1' y0' y1'
          go_wp2
          go_ret
          exact ⟨congrArg (fun x => Ending.returned (Value.bool x)) HNO.out.symm, below_step HB9.out (below_drew (Below.refl _ _))⟩
      · obtain rfl : i = xs.length := by omega
        have HT : Aside0 (eqB xs ys = true) := ⟨eqB_iff.2 (by have h := H.out.2; rw [List.take_length, HLEN.out, List.take_length] at h; exact h)⟩
        go_wp2
        go_ret
        exact ⟨congrArg (fun x => Ending.returned (Value.bool x)) HT.out.symm, H.out.1⟩
  · have hlen' : ¬ (xs.length : Int) = (ys.length : Int) := by omega
    have HN := Aside0.mk (eqB_no (show xs ≠ ys by rintro rfl; exact hlen rfl))
    clear hx hy' IH
    go_enter Tryz.func21, Tryz.ntmps21
    go_wp2
    go_ret
    exact ⟨congrArg (fun x => Ending.returned (Value.bool x)) HN.out.symm, Below.refl _ _⟩
theorem rSame_both (n : Nat) : RSameC n ∧ RSamePC n := by
  induction n using Nat.strongRecOn with
  | _ n ih => exact ⟨rSame_any n (fun m hm => (ih m hm).2), rPreds_any n ih⟩
theorem refSame_any {ok ok' : Nat → Prop} {w : World} {v u : Value} {xs ys : List Step} (h1 : StepsR ok w v xs) (h2 : StepsR ok' w u ys) : Calls Tryz.prog 12 #[v, u] w (SamePost (eqB xs ys) w) := by
  obtain ⟨n, h1⟩ := h1
  exact (rSame_both n).1 ok ok' w v u xs ys h1 h2
end Go.Proofs.YtoanmoddppmffaaGreatDoor.T
