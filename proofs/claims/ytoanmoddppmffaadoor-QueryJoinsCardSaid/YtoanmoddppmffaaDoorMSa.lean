/- The reference's Same. -/
import Derived.Test.YtoanmoddppmffaaDoorMQk
import Derived.Test.YtoanmoddppmffaaDoorMQp
import Derived.BigQuiet
import Derived.Deep.QuietTactic
import Derived.Deep.DeepCutAuto
namespace Go.Proofs.YtoanmoddppmffaaDoor.T
open Go.RowKit Go.Shelf Go.Proofs.YtoanmoddppmffaaDoorW.PrintWords
set_option linter.unusedVariables false
set_option linter.unusedSimpArgs false
def SamePost (b : Bool) (w : World) (e : Ending) (w' : World) : Prop := e = .returned (.bool b) ∧ Below w.heap.size w w'
def RSameE (n : Nat) : Prop := ∀ (ok ok' : Nat → Prop) (w : World) (v u : Value) (xs : List Step), SlAt (stepR ok w n) ok w v xs → StepsR ok' w u xs → Calls Tryd.prog 10 #[v, u] w (SamePost true w)
def RSamePE (n : Nat) : Prop := ∀ (ok ok' : Nat → Prop) (w : World) (v u : Value) (xs : List Pred), SlAt (predR ok w n) ok w v xs → PredsR ok' w u xs → Calls Tryd.prog 18 #[v, u] w (SamePost true w)
theorem predsAt_below {ok : Nat → Prop} {w w' : World} {n : Nat} {v : Value} {xs : List Pred} (h : SlAt (predR ok w n) ok w v xs) (hb : Below w.heap.size w w') : SlAt (predR (fun k => ok k ∧ k < w.heap.size) w' n) (fun k => ok k ∧ k < w.heap.size) w' v xs :=
  (h.bound (K' := predR (fun k => ok k ∧ k < w.heap.size) w n) (fun y c _ hy => predR_bound n y c hy)).imp_ (fun k hk => hb.block k hk.2) (fun k hk => hk) (fun y c _ hy => predR_imp (fun k hk => hb.block k hk.2) (fun k hk => hk) n n (Nat.le_refl _) y c hy)
theorem stepsAt_below {ok : Nat → Prop} {w w' : World} {n : Nat} {v : Value} {xs : List Step} (h : SlAt (stepR ok w n) ok w v xs) (hb : Below w.heap.size w w') : SlAt (stepR (fun k => ok k ∧ k < w.heap.size) w' n) (fun k => ok k ∧ k < w.heap.size) w' v xs :=
  (h.bound (K' := stepR (fun k => ok k ∧ k < w.heap.size) w n) (fun y c _ hy => stepR_bound n y c hy)).imp_ (fun k hk => hb.block k hk.2) (fun k hk => hk) (fun y c _ hy => stepR_imp (fun k hk => hb.block k hk.2) (fun k hk => hk) n n (Nat.le_refl _) y c hy)
theorem fld {w : World} {ad : Addr} {n k : Nat} {v : Value} (hk : k ≠ 0) (h : w.cell? (ad.add (n + k)) = some v) : w.cell? ⟨(ad.add n).block, (ad.add n).off + k, none⟩ = some v := by
  rw [← add_add] at h
  rw [← h]
  simp [Addr.add, hk]
theorem SlAt.getS {ok : Nat → Prop} {w : World} {n : Nat} {v : Value} {xs : List Step} (h : SlAt (stepR ok w n) ok w v xs) {j : Nat} {x : Step} (hj : xs[j]? = some x) : ∃ m ad c u, n = m + 1 ∧ v = .slice (some ad) xs.length c ∧ ok ad.block ∧ SlAt (predR ok w m) ok w u x.preds ∧
    w.cell? (ad.add (j * 4)) = some (.bool x.deep) ∧ w.cell? ⟨(ad.add (j * 4)).block, (ad.add (j * 4)).off + 1, none⟩ = some (.int .i64 x.axis) ∧ w.cell? ⟨(ad.add (j * 4)).block, (ad.add (j * 4)).off + 2, none⟩ = some (.string x.name) ∧ w.cell? ⟨(ad.add (j * 4)).block, (ad.add (j * 4)).off + 3, none⟩ = some u := by
  obtain ⟨A, c, e, _, _, hr⟩ := h
  obtain ⟨ad, cs, rfl, hok, _, hc, hk⟩ := hr j x hj
  cases n with
  | zero => simp only [stepR] at hk
  | succ m =>
    simp only [stepR] at hk
    obtain ⟨u, rfl, hp⟩ := hk
    exact ⟨m, ad, c, u, rfl, e, hok, hp, hc 0 _ rfl, fld (by decide) (hc 1 _ rfl), fld (by decide) (hc 2 _ rfl), fld (by decide) (hc 3 _ rfl)⟩
theorem SlAt.getP {ok : Nat → Prop} {w : World} {n : Nat} {v : Value} {xs : List Pred} (h : SlAt (predR ok w n) ok w v xs) {j : Nat} {x : Pred} (hj : xs[j]? = some x) : ∃ m ad c p a, n = m + 1 ∧ v = .slice (some ad) xs.length c ∧ ok ad.block ∧ SlAt (stepR ok w m) ok w p x.path ∧ SlAt (predR ok w m) ok w a x.args ∧
    w.cell? (ad.add (j * 4)) = some (.int .i64 x.kind) ∧ w.cell? ⟨(ad.add (j * 4)).block, (ad.add (j * 4)).off + 1, none⟩ = some (.int .i64 x.n) ∧ w.cell? ⟨(ad.add (j * 4)).block, (ad.add (j * 4)).off + 2, none⟩ = some p ∧ w.cell? ⟨(ad.add (j * 4)).block, (ad.add (j * 4)).off + 3, none⟩ = some a := by
  obtain ⟨A, c, e, _, _, hr⟩ := h
  obtain ⟨ad, cs, rfl, hok, _, hc, hk⟩ := hr j x hj
  cases n with
  | zero => simp only [predR] at hk
  | succ m =>
    simp only [predR] at hk
    obtain ⟨p, a, rfl, hp, ha⟩ := hk
    exact ⟨m, ad, c, p, a, rfl, e, hok, hp, ha, hc 0 _ rfl, fld (by decide) (hc 1 _ rfl), fld (by decide) (hc 2 _ rfl), fld (by decide) (hc 3 _ rfl)⟩
set_option maxHeartbeats 4000000 in
set_option maxRecDepth 100000 in
theorem rSame_eq (n : Nat) (IH : ∀ m, m < n → RSamePE m) : RSameE n := by
  intro ok ok' w v u xs hx hy
  obtain ⟨A, c, rfl, hc1, hc2⟩ := hx.slice
  obtain ⟨ny, hy'⟩ := hy
  obtain ⟨B, d, rfl, hd1, hd2⟩ := hy'.slice
  have HX := Aside0.mk hx
  have HY := Aside0.mk hy'
  have HIH := Aside0.mk IH
  have hm : (xs.length : Int) ≤ 9223372036854775807 := by unfold maxLen at hc2; omega
  clear hx hy' IH
  go_enter Tryd.func10, Tryd.ntmps10
  go_wp2
  go_loopg [5] xs.length (fun gk iv wr => ∃ i : Nat, iv = .int .i64 i ∧ i ≤ xs.length ∧ xs.length - i ≤ gk ∧ Aside0 (Below w.heap.size w wr))
  case atStart => exact ⟨0, rfl, by omega, by omega, ⟨Below.refl _ _⟩⟩
  case round =>
    obtain ⟨i, rfl, hi, hgk, H⟩ := hrel
    have hi0 : (0 : Int) ≤ (i : Int) := by omega
    by_cases hlt : i < xs.length
    · have hlt1 : (i : Int) < (xs.length : Int) := by omega
      obtain ⟨x, hxi⟩ : ∃ x, xs[i]? = some x := ⟨_, List.getElem?_eq_getElem hlt⟩
      obtain ⟨m, ad, c', u1, rfl, he1, hok1, hp1, x0, x1, x2, x3⟩ := HX.out.getS hxi
      obtain ⟨m2, bd, d', u2, rfl, he2, hok2, hp2, y0, y1, y2, y3⟩ := HY.out.getS (n := ny) hxi
      simp only [Value.slice.injEq, true_and] at he1 he2
      obtain ⟨rfl, rfl⟩ := he1
      obtain ⟨rfl, rfl⟩ := he2
      have hbel := H.out
      have q0 : wr.cell? ⟨(ad.add (i * 4)).block, (ad.add (i * 4)).off + 3, none⟩ = some u1 := pw_cell_below hbel x3
      have q1 : wr.cell? ⟨(bd.add (i * 4)).block, (bd.add (i * 4)).off + 3, none⟩ = some u2 := pw_cell_below hbel y3
      have hcall := HIH.out m (by omega) _ _ wr.drew u1 u2 x.preds (predsAt_below hp1 (below_step hbel (below_drew (Below.refl _ _)))) ⟨_, predsAt_below hp2 (below_step hbel (below_drew (Below.refl _ _)))⟩
      go_wp2_with fail
      refine B_region (fun w' => w'.cell? ⟨(ad.add (i * 4)).block, (ad.add (i * 4)).off + 3, none⟩ = some u1 ∧ w'.cell? ⟨(bd.add (i * 4)).block, (bd.add (i * 4)).off + 3, none⟩ = some u2) 12 (by kernel_rfl) ⟨q0, q1⟩ (fun hS0 => ?_)
      refine B_takeD 10 18 (i := 0) (v := .slice (some ad) xs.length c) rfl rfl (by kernel_rfl) (fun _ _ _ h => h) (by kernel_rfl) (fun w' hSw => ?_) hS0 ?_
      · obtain ⟨hs1, hs2⟩ := hSw; go_simp
      simp only [List.setIfInBounds_toArray, List.set_cons_zero, List.set_cons_succ]
      refine B_takeD 10 19 (i := 1) (v := .int .i64 i) rfl rfl (by kernel_rfl) (fun _ _ _ h => h) (by kernel_rfl) (fun w' hSw => ?_) hS0 ?_
      · obtain ⟨hs1, hs2⟩ := hSw; go_simp
      simp only [List.setIfInBounds_toArray, List.set_cons_zero, List.set_cons_succ]
      refine B_takeD 10 20 (i := 2) (v := .pointer (some (ad.add (i * 4)))) rfl rfl (by kernel_rfl) (fun _ _ _ h => h) (by kernel_rfl) (fun w' hSw => ?_) hS0 ?_
      · obtain ⟨hs1, hs2⟩ := hSw; go_simp
      simp only [List.setIfInBounds_toArray, List.set_cons_zero, List.set_cons_succ]
      refine B_takeD 10 21 (i := 3) (v := .pointer (some ⟨(ad.add (i * 4)).block, (ad.add (i * 4)).off + 3, none⟩)) rfl rfl (by kernel_rfl) (fun _ _ _ h => h) (by kernel_rfl) (fun w' hSw => ?_) hS0 ?_
      · obtain ⟨hs1, hs2⟩ := hSw; go_simp
      simp only [List.setIfInBounds_toArray, List.set_cons_zero, List.set_cons_succ]
      refine B_takeD 10 22 (i := 4) (v := u1) rfl rfl (by kernel_rfl) (fun _ _ _ h => h) (by kernel_rfl) (fun w' hSw => ?_) hS0 ?_
      · obtain ⟨hs1, hs2⟩ := hSw; go_simp
      simp only [List.setIfInBounds_toArray, List.set_cons_zero, List.set_cons_succ]
      refine B_takeD 10 23 (i := 5) (v := .slice (some bd) xs.length d) rfl rfl (by kernel_rfl) (fun _ _ _ h => h) (by kernel_rfl) (fun w' hSw => ?_) hS0 ?_
      · obtain ⟨hs1, hs2⟩ := hSw; go_simp
      simp only [List.setIfInBounds_toArray, List.set_cons_zero, List.set_cons_succ]
      refine B_takeD 10 24 (i := 6) (v := .int .i64 i) rfl rfl (by kernel_rfl) (fun _ _ _ h => h) (by kernel_rfl) (fun w' hSw => ?_) hS0 ?_
      · obtain ⟨hs1, hs2⟩ := hSw; go_simp
      simp only [List.setIfInBounds_toArray, List.set_cons_zero, List.set_cons_succ]
      refine B_takeD 10 25 (i := 7) (v := .pointer (some (bd.add (i * 4)))) rfl rfl (by kernel_rfl) (fun _ _ _ h => h) (by kernel_rfl) (fun w' hSw => ?_) hS0 ?_
      · obtain ⟨hs1, hs2⟩ := hSw; go_simp
      simp only [List.setIfInBounds_toArray, List.set_cons_zero, List.set_cons_succ]
      refine B_takeD 10 26 (i := 8) (v := .pointer (some ⟨(bd.add (i * 4)).block, (bd.add (i * 4)).off + 3, none⟩)) rfl rfl (by kernel_rfl) (fun _ _ _ h => h) (by kernel_rfl) (fun w' hSw => ?_) hS0 ?_
      · obtain ⟨hs1, hs2⟩ := hSw; go_simp
      simp only [List.setIfInBounds_toArray, List.set_cons_zero, List.set_cons_succ]
      refine B_takeD 10 27 (i := 9) (v := u2) rfl rfl (by kernel_rfl) (fun _ _ _ h => h) (by kernel_rfl) (fun w' hSw => ?_) hS0 ?_
      · obtain ⟨hs1, hs2⟩ := hSw; go_simp
      simp only [List.setIfInBounds_toArray, List.set_cons_zero, List.set_cons_succ]
      refine B_one (i := 10) rfl (by kernel_rfl) (fun K' hK => ?_)
      go_simp
      refine hcall.mono ?_
      rintro e w5 ⟨rfl, hb5⟩
      have hbel5 : Below w.heap.size w w5 := below_step (below_step hbel (below_drew (Below.refl _ _))) hb5
      have r0 : w5.cell? ⟨(ad.add (i * 4)).block, (ad.add (i * 4)).off + 3, none⟩ = some u1 := pw_cell_below hbel5 x3
      have r1 : w5.cell? ⟨(bd.add (i * 4)).block, (bd.add (i * 4)).off + 3, none⟩ = some u2 := pw_cell_below hbel5 y3
      refine hK.out _ _ ⟨r0, r1⟩ ?_
      clear hK K'
      try simp only [Act.put, List.setIfInBounds_toArray, List.set_cons_zero, List.set_cons_succ]
      refine B_one (i := 11) rfl (by kernel_rfl) (fun K' hK => ?_)
      go_simp
      refine hK.out _ _ ⟨r0, r1⟩ ?_
      clear hK K'
      try simp only [Act.put, List.setIfInBounds_toArray, List.set_cons_zero, List.set_cons_succ]
      refine ⟨by kernel_rfl, ?_⟩
      have x0' : w5.cell? (ad.add (i * 4)) = some (.bool x.deep) := pw_cell_below hbel5 x0
      have x1' : w5.cell? ⟨(ad.add (i * 4)).block, (ad.add (i * 4)).off + 1, none⟩ = some (.int .i64 x.axis) := pw_cell_below hbel5 x1
      have x2' : w5.cell? ⟨(ad.add (i * 4)).block, (ad.add (i * 4)).off + 2, none⟩ = some (.string x.name) := pw_cell_below hbel5 x2
      have y0' : w5.cell? (bd.add (i * 4)) = some (.bool x.deep) := pw_cell_below hbel5 y0
      have y1' : w5.cell? ⟨(bd.add (i * 4)).block, (bd.add (i * 4)).off + 1, none⟩ = some (.int .i64 x.axis) := pw_cell_below hbel5 y1
      have y2' : w5.cell? ⟨(bd.add (i * 4)).block, (bd.add (i * 4)).off + 2, none⟩ = some (.string x.name) := pw_cell_below hbel5 y2
      have HB9 := Aside0.mk hbel5
      clear hcall q0 q1 r0 r1 hb5 hbel hbel5 hS0 x0 x1 x2 x3 y0 y1 y2 y3 hp1 hp2 hxi
      go_upto_region 7 with fail
      refine B_region (fun w' => w'.cell? (ad.add (i * 4)) = some (.bool x.deep) ∧ w'.cell? ⟨(ad.add (i * 4)).block, (ad.add (i * 4)).off + 1, none⟩ = some (.int .i64 x.axis) ∧ w'.cell? ⟨(ad.add (i * 4)).block, (ad.add (i * 4)).off + 2, none⟩ = some (.string x.name) ∧ w'.cell? (bd.add (i * 4)) = some (.bool x.deep) ∧ w'.cell? ⟨(bd.add (i * 4)).block, (bd.add (i * 4)).off + 1, none⟩ = some (.int .i64 x.axis) ∧ w'.cell? ⟨(bd.add (i * 4)).block, (bd.add (i * 4)).off + 2, none⟩ = some (.string x.name)) 41 (by kernel_rfl) ⟨x0', x1', x2', y0', y1', y2'⟩ (fun hS0 => ?_)
      refine B_takeD 41 29 (i := 0) (v := .slice (some ad) xs.length c) rfl rfl (by kernel_rfl) (fun _ _ _ h => h) (by kernel_rfl) (fun w' hSw => ?_) hS0 ?_
      · obtain ⟨hs1, hs2, hs3, hs4, hs5, hs6⟩ := hSw; go_simp
      simp only [List.setIfInBounds_toArray, List.set_cons_zero, List.set_cons_succ]
      refine B_takeD 41 30 (i := 1) (v := .int .i64 i) rfl rfl (by kernel_rfl) (fun _ _ _ h => h) (by kernel_rfl) (fun w' hSw => ?_) hS0 ?_
      · obtain ⟨hs1, hs2, hs3, hs4, hs5, hs6⟩ := hSw; go_simp
      simp only [List.setIfInBounds_toArray, List.set_cons_zero, List.set_cons_succ]
      refine B_takeD 41 31 (i := 2) (v := .pointer (some (ad.add (i * 4)))) rfl rfl (by kernel_rfl) (fun _ _ _ h => h) (by kernel_rfl) (fun w' hSw => ?_) hS0 ?_
      · obtain ⟨hs1, hs2, hs3, hs4, hs5, hs6⟩ := hSw; go_simp
      simp only [List.setIfInBounds_toArray, List.set_cons_zero, List.set_cons_succ]
      refine B_takeD 41 32 (i := 3) (v := .pointer (some (ad.add (i * 4)))) rfl rfl (by kernel_rfl) (fun _ _ _ h => h) (by kernel_rfl) (fun w' hSw => ?_) hS0 ?_
      · obtain ⟨hs1, hs2, hs3, hs4, hs5, hs6⟩ := hSw; go_simp
      simp only [List.setIfInBounds_toArray, List.set_cons_zero, List.set_cons_succ]
      refine B_takeD 41 33 (i := 4) (v := .bool x.deep) rfl rfl (by kernel_rfl) (fun _ _ _ h => h) (by kernel_rfl) (fun w' hSw => ?_) hS0 ?_
      · obtain ⟨hs1, hs2, hs3, hs4, hs5, hs6⟩ := hSw; go_simp
      simp only [List.setIfInBounds_toArray, List.set_cons_zero, List.set_cons_succ]
      refine B_takeD 41 34 (i := 5) (v := .slice (some bd) xs.length d) rfl rfl (by kernel_rfl) (fun _ _ _ h => h) (by kernel_rfl) (fun w' hSw => ?_) hS0 ?_
      · obtain ⟨hs1, hs2, hs3, hs4, hs5, hs6⟩ := hSw; go_simp
      simp only [List.setIfInBounds_toArray, List.set_cons_zero, List.set_cons_succ]
      refine B_takeD 41 35 (i := 6) (v := .int .i64 i) rfl rfl (by kernel_rfl) (fun _ _ _ h => h) (by kernel_rfl) (fun w' hSw => ?_) hS0 ?_
      · obtain ⟨hs1, hs2, hs3, hs4, hs5, hs6⟩ := hSw; go_simp
      simp only [List.setIfInBounds_toArray, List.set_cons_zero, List.set_cons_succ]
      refine B_takeD 41 36 (i := 7) (v := .pointer (some (bd.add (i * 4)))) rfl rfl (by kernel_rfl) (fun _ _ _ h => h) (by kernel_rfl) (fun w' hSw => ?_) hS0 ?_
      · obtain ⟨hs1, hs2, hs3, hs4, hs5, hs6⟩ := hSw; go_simp
      simp only [List.setIfInBounds_toArray, List.set_cons_zero, List.set_cons_succ]
      refine B_takeD 41 37 (i := 8) (v := .pointer (some (bd.add (i * 4)))) rfl rfl (by kernel_rfl) (fun _ _ _ h => h) (by kernel_rfl) (fun w' hSw => ?_) hS0 ?_
      · obtain ⟨hs1, hs2, hs3, hs4, hs5, hs6⟩ := hSw; go_simp
      simp only [List.setIfInBounds_toArray, List.set_cons_zero, List.set_cons_succ]
      refine B_takeD 41 38 (i := 9) (v := .bool x.deep) rfl rfl (by kernel_rfl) (fun _ _ _ h => h) (by kernel_rfl) (fun w' hSw => ?_) hS0 ?_
      · obtain ⟨hs1, hs2, hs3, hs4, hs5, hs6⟩ := hSw; go_simp
      simp only [List.setIfInBounds_toArray, List.set_cons_zero, List.set_cons_succ]
      refine B_takeD 41 39 (i := 10) (v := .bool false) rfl rfl (by kernel_rfl) (fun _ _ _ h => h) (by kernel_rfl) (fun w' hSw => ?_) hS0 ?_
      · obtain ⟨hs1, hs2, hs3, hs4, hs5, hs6⟩ := hSw; go_simp
      simp only [List.setIfInBounds_toArray, List.set_cons_zero, List.set_cons_succ]
      refine B_takeD 41 40 (i := 11) (v := .bool false) rfl rfl (by kernel_rfl) (fun _ _ _ h => h) (by kernel_rfl) (fun w' hSw => ?_) hS0 ?_
      · obtain ⟨hs1, hs2, hs3, hs4, hs5, hs6⟩ := hSw; go_simp
      simp only [List.setIfInBounds_toArray, List.set_cons_zero, List.set_cons_succ]
      refine B_takeD 41 41 (i := 12) (v := .slice (some ad) xs.length c) rfl rfl (by kernel_rfl) (fun _ _ _ h => h) (by kernel_rfl) (fun w' hSw => ?_) hS0 ?_
      · obtain ⟨hs1, hs2, hs3, hs4, hs5, hs6⟩ := hSw; go_simp
      simp only [List.setIfInBounds_toArray, List.set_cons_zero, List.set_cons_succ]
      refine B_takeD 41 42 (i := 13) (v := .int .i64 i) rfl rfl (by kernel_rfl) (fun _ _ _ h => h) (by kernel_rfl) (fun w' hSw => ?_) hS0 ?_
      · obtain ⟨hs1, hs2, hs3, hs4, hs5, hs6⟩ := hSw; go_simp
      simp only [List.setIfInBounds_toArray, List.set_cons_zero, List.set_cons_succ]
      refine B_takeD 41 43 (i := 14) (v := .pointer (some (ad.add (i * 4)))) rfl rfl (by kernel_rfl) (fun _ _ _ h => h) (by kernel_rfl) (fun w' hSw => ?_) hS0 ?_
      · obtain ⟨hs1, hs2, hs3, hs4, hs5, hs6⟩ := hSw; go_simp
      simp only [List.setIfInBounds_toArray, List.set_cons_zero, List.set_cons_succ]
      refine B_takeD 41 44 (i := 15) (v := .pointer (some ⟨(ad.add (i * 4)).block, (ad.add (i * 4)).off + 1, none⟩)) rfl rfl (by kernel_rfl) (fun _ _ _ h => h) (by kernel_rfl) (fun w' hSw => ?_) hS0 ?_
      · obtain ⟨hs1, hs2, hs3, hs4, hs5, hs6⟩ := hSw; go_simp
      simp only [List.setIfInBounds_toArray, List.set_cons_zero, List.set_cons_succ]
      refine B_takeD 41 45 (i := 16) (v := .int .i64 x.axis) rfl rfl (by kernel_rfl) (fun _ _ _ h => h) (by kernel_rfl) (fun w' hSw => ?_) hS0 ?_
      · obtain ⟨hs1, hs2, hs3, hs4, hs5, hs6⟩ := hSw; go_simp
      simp only [List.setIfInBounds_toArray, List.set_cons_zero, List.set_cons_succ]
      refine B_takeD 41 46 (i := 17) (v := .slice (some bd) xs.length d) rfl rfl (by kernel_rfl) (fun _ _ _ h => h) (by kernel_rfl) (fun w' hSw => ?_) hS0 ?_
      · obtain ⟨hs1, hs2, hs3, hs4, hs5, hs6⟩ := hSw; go_simp
      simp only [List.setIfInBounds_toArray, List.set_cons_zero, List.set_cons_succ]
      refine B_takeD 41 47 (i := 18) (v := .int .i64 i) rfl rfl (by kernel_rfl) (fun _ _ _ h => h) (by kernel_rfl) (fun w' hSw => ?_) hS0 ?_
      · obtain ⟨hs1, hs2, hs3, hs4, hs5, hs6⟩ := hSw; go_simp
      simp only [List.setIfInBounds_toArray, List.set_cons_zero, List.set_cons_succ]
      refine B_takeD 41 48 (i := 19) (v := .pointer (some (bd.add (i * 4)))) rfl rfl (by kernel_rfl) (fun _ _ _ h => h) (by kernel_rfl) (fun w' hSw => ?_) hS0 ?_
      · obtain ⟨hs1, hs2, hs3, hs4, hs5, hs6⟩ := hSw; go_simp
      simp only [List.setIfInBounds_toArray, List.set_cons_zero, List.set_cons_succ]
      refine B_takeD 41 49 (i := 20) (v := .pointer (some ⟨(bd.add (i * 4)).block, (bd.add (i * 4)).off + 1, none⟩)) rfl rfl (by kernel_rfl) (fun _ _ _ h => h) (by kernel_rfl) (fun w' hSw => ?_) hS0 ?_
      · obtain ⟨hs1, hs2, hs3, hs4, hs5, hs6⟩ := hSw; go_simp
      simp only [List.setIfInBounds_toArray, List.set_cons_zero, List.set_cons_succ]
      refine B_takeD 41 50 (i := 21) (v := .int .i64 x.axis) rfl rfl (by kernel_rfl) (fun _ _ _ h => h) (by kernel_rfl) (fun w' hSw => ?_) hS0 ?_
      · obtain ⟨hs1, hs2, hs3, hs4, hs5, hs6⟩ := hSw; go_simp
      simp only [List.setIfInBounds_toArray, List.set_cons_zero, List.set_cons_succ]
      refine B_takeD 41 51 (i := 22) (v := .bool false) rfl rfl (by kernel_rfl) (fun _ _ _ h => h) (by kernel_rfl) (fun w' hSw => ?_) hS0 ?_
      · obtain ⟨hs1, hs2, hs3, hs4, hs5, hs6⟩ := hSw; go_simp
      simp only [List.setIfInBounds_toArray, List.set_cons_zero, List.set_cons_succ]
      refine B_takeD 41 52 (i := 23) (v := .bool false) rfl rfl (by kernel_rfl) (fun _ _ _ h => h) (by kernel_rfl) (fun w' hSw => ?_) hS0 ?_
      · obtain ⟨hs1, hs2, hs3, hs4, hs5, hs6⟩ := hSw; go_simp
      simp only [List.setIfInBounds_toArray, List.set_cons_zero, List.set_cons_succ]
      refine B_takeD 41 53 (i := 24) (v := .bool false) rfl rfl (by kernel_rfl) (fun _ _ _ h => h) (by kernel_rfl) (fun w' hSw => ?_) hS0 ?_
      · obtain ⟨hs1, hs2, hs3, hs4, hs5, hs6⟩ := hSw; go_simp
      simp only [List.setIfInBounds_toArray, List.set_cons_zero, List.set_cons_succ]
      refine B_takeD 41 54 (i := 25) (v := .slice (some ad) xs.length c) rfl rfl (by kernel_rfl) (fun _ _ _ h => h) (by kernel_rfl) (fun w' hSw => ?_) hS0 ?_
      · obtain ⟨hs1, hs2, hs3, hs4, hs5, hs6⟩ := hSw; go_simp
      simp only [List.setIfInBounds_toArray, List.set_cons_zero, List.set_cons_succ]
      refine B_takeD 41 55 (i := 26) (v := .int .i64 i) rfl rfl (by kernel_rfl) (fun _ _ _ h => h) (by kernel_rfl) (fun w' hSw => ?_) hS0 ?_
      · obtain ⟨hs1, hs2, hs3, hs4, hs5, hs6⟩ := hSw; go_simp
      simp only [List.setIfInBounds_toArray, List.set_cons_zero, List.set_cons_succ]
      refine B_takeD 41 56 (i := 27) (v := .pointer (some (ad.add (i * 4)))) rfl rfl (by kernel_rfl) (fun _ _ _ h => h) (by kernel_rfl) (fun w' hSw => ?_) hS0 ?_
      · obtain ⟨hs1, hs2, hs3, hs4, hs5, hs6⟩ := hSw; go_simp
      simp only [List.setIfInBounds_toArray, List.set_cons_zero, List.set_cons_succ]
      refine B_takeD 41 57 (i := 28) (v := .pointer (some ⟨(ad.add (i * 4)).block, (ad.add (i * 4)).off + 2, none⟩)) rfl rfl (by kernel_rfl) (fun _ _ _ h => h) (by kernel_rfl) (fun w' hSw => ?_) hS0 ?_
      · obtain ⟨hs1, hs2, hs3, hs4, hs5, hs6⟩ := hSw; go_simp
      simp only [List.setIfInBounds_toArray, List.set_cons_zero, List.set_cons_succ]
      refine B_takeD 41 58 (i := 29) (v := .string x.name) rfl rfl (by kernel_rfl) (fun _ _ _ h => h) (by kernel_rfl) (fun w' hSw => ?_) hS0 ?_
      · obtain ⟨hs1, hs2, hs3, hs4, hs5, hs6⟩ := hSw; go_simp
      simp only [List.setIfInBounds_toArray, List.set_cons_zero, List.set_cons_succ]
      refine B_takeD 41 59 (i := 30) (v := .slice (some bd) xs.length d) rfl rfl (by kernel_rfl) (fun _ _ _ h => h) (by kernel_rfl) (fun w' hSw => ?_) hS0 ?_
      · obtain ⟨hs1, hs2, hs3, hs4, hs5, hs6⟩ := hSw; go_simp
      simp only [List.setIfInBounds_toArray, List.set_cons_zero, List.set_cons_succ]
      refine B_takeD 41 60 (i := 31) (v := .int .i64 i) rfl rfl (by kernel_rfl) (fun _ _ _ h => h) (by kernel_rfl) (fun w' hSw => ?_) hS0 ?_
      · obtain ⟨hs1, hs2, hs3, hs4, hs5, hs6⟩ := hSw; go_simp
      simp only [List.setIfInBounds_toArray, List.set_cons_zero, List.set_cons_succ]
      refine B_takeD 41 61 (i := 32) (v := .pointer (some (bd.add (i * 4)))) rfl rfl (by kernel_rfl) (fun _ _ _ h => h) (by kernel_rfl) (fun w' hSw => ?_) hS0 ?_
      · obtain ⟨hs1, hs2, hs3, hs4, hs5, hs6⟩ := hSw; go_simp
      simp only [List.setIfInBounds_toArray, List.set_cons_zero, List.set_cons_succ]
      refine B_takeD 41 62 (i := 33) (v := .pointer (some ⟨(bd.add (i * 4)).block, (bd.add (i * 4)).off + 2, none⟩)) rfl rfl (by kernel_rfl) (fun _ _ _ h => h) (by kernel_rfl) (fun w' hSw => ?_) hS0 ?_
      · obtain ⟨hs1, hs2, hs3, hs4, hs5, hs6⟩ := hSw; go_simp
      simp only [List.setIfInBounds_toArray, List.set_cons_zero, List.set_cons_succ]
      refine B_takeD 41 63 (i := 34) (v := .string x.name) rfl rfl (by kernel_rfl) (fun _ _ _ h => h) (by kernel_rfl) (fun w' hSw => ?_) hS0 ?_
      · obtain ⟨hs1, hs2, hs3, hs4, hs5, hs6⟩ := hSw; go_simp
      simp only [List.setIfInBounds_toArray, List.set_cons_zero, List.set_cons_succ]
      refine B_takeD 41 64 (i := 35) (v := .bool false) rfl rfl (by kernel_rfl) (fun _ _ _ h => h) (by kernel_rfl) (fun w' hSw => ?_) hS0 ?_
      · obtain ⟨hs1, hs2, hs3, hs4, hs5, hs6⟩ := hSw; go_simp
      simp only [List.setIfInBounds_toArray, List.set_cons_zero, List.set_cons_succ]
      refine B_takeD 41 65 (i := 36) (v := .bool false) rfl rfl (by kernel_rfl) (fun _ _ _ h => h) (by kernel_rfl) (fun w' hSw => ?_) hS0 ?_
      · obtain ⟨hs1, hs2, hs3, hs4, hs5, hs6⟩ := hSw; go_simp
      simp only [List.setIfInBounds_toArray, List.set_cons_zero, List.set_cons_succ]
      refine B_takeD 41 66 (i := 37) (v := .bool false) rfl rfl (by kernel_rfl) (fun _ _ _ h => h) (by kernel_rfl) (fun w' hSw => ?_) hS0 ?_
      · obtain ⟨hs1, hs2, hs3, hs4, hs5, hs6⟩ := hSw; go_simp
      simp only [List.setIfInBounds_toArray, List.set_cons_zero, List.set_cons_succ]
      refine B_takeD 41 67 (i := 38) (v := .bool true) rfl rfl (by kernel_rfl) (fun _ _ _ h => h) (by kernel_rfl) (fun w' hSw => ?_) hS0 ?_
      · obtain ⟨hs1, hs2, hs3, hs4, hs5, hs6⟩ := hSw; go_simp
      simp only [List.setIfInBounds_toArray, List.set_cons_zero, List.set_cons_succ]
      refine B_takeD 41 68 (i := 39) (v := .bool false) rfl rfl (by kernel_rfl) (fun _ _ _ h => h) (by kernel_rfl) (fun w' hSw => ?_) hS0 ?_
      · obtain ⟨hs1, hs2, hs3, hs4, hs5, hs6⟩ := hSw; go_simp
      simp only [List.setIfInBounds_toArray, List.set_cons_zero, List.set_cons_succ]
      refine B_takeD 41 69 (i := 40) (v := .bool false) rfl rfl (by kernel_rfl) (fun _ _ _ h => h) (by kernel_rfl) (fun w' hSw => ?_) hS0 ?_
      · obtain ⟨hs1, hs2, hs3, hs4, hs5, hs6⟩ := hSw; go_simp
      simp only [List.setIfInBounds_toArray, List.set_cons_zero, List.set_cons_succ]
      refine ⟨by kernel_rfl, ?_⟩
      clear hS0 x0' x1' x2' y0' y1' y2'
      go_wp2
      go_roundg (xs.length - (i + 1))
      case rel => exact ⟨i + 1, by go_num, by omega, by omega, ⟨below_step HB9.out (below_drew (Below.refl _ _))⟩⟩
      case measure => omega
    · obtain rfl : i = xs.length := by omega
      go_wp2
      go_ret
      exact ⟨rfl, H.out⟩
end Go.Proofs.YtoanmoddppmffaaDoor.T
