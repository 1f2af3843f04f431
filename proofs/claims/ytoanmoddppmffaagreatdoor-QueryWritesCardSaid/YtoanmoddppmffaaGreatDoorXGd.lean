/- The reference: what must hold, written out. -/
import Derived.Test.YtoanmoddppmffaaGreatDoorXGb
namespace Go.Proofs.YtoanmoddppmffaaGreatDoor.T
open Go.RowKit Go.Shelf Go.Proofs.YtoanmoddppmffaaGreatDoorW.PrintWords
set_option linter.unusedVariables false
set_option linter.unusedSimpArgs false
theorem inP_ge (b : Bool) (s : ByteArray) : s.size ≤ (inP b s).size := by
  unfold inP
  split
  · simp only [ByteArray.size_append]; omega
  · omega
theorem inP_mono (b : Bool) {s t : ByteArray} (h : s.size ≤ t.size) : (inP b s).size ≤ (inP b t).size := by
  unfold inP
  split
  · simp only [ByteArray.size_append]; omega
  · exact h
set_option maxHeartbeats 8000000 in
set_option maxRecDepth 100000 in
theorem refHeld_any (n : Nat) (IHP : RWStepsC n) (IH : ∀ m, m < n → RWHeldC m) : RWHeldC n := by
  intro ok w A B c d p hp ha hnm hz
  obtain ⟨hpl1, hpl2⟩ : p.path.length ≤ c ∧ c ≤ maxLen := by obtain ⟨A', c', e, h1, h2⟩ := hp.slice; injection e with e1 e2 e3; omega
  obtain ⟨hal1, hal2⟩ : p.args.length ≤ d ∧ d ≤ maxLen := by obtain ⟨A', c', e, h1, h2⟩ := ha.slice; injection e with e1 e2 e3; omega
  have hbox : Below w.heap.size w (w.alloc (.cells #[.int .i64 p.kind, .int .i64 p.n, .slice A p.path.length c, .slice B p.args.length d] 41)) := below_alloc (Below.refl _ _) _
  have hn0 : (w.alloc (.cells #[.int .i64 p.kind, .int .i64 p.n, .slice A p.path.length c, .slice B p.args.length d] 41)).heap[w.heap.size]? = some (.cells #[.int .i64 p.kind, .int .i64 p.n, .slice A p.path.length c, .slice B p.args.length d] 41 (0, 0)) := blk_new _ _
  generalize hw0 : w.alloc (.cells #[.int .i64 p.kind, .int .i64 p.n, .slice A p.path.length c, .slice B p.args.length d] 41) = w0 at hbox hn0
  have HB := Aside0.mk hbox
  have HN0 := Aside0.mk hn0
  have HP := Aside0.mk hp
  have HA := Aside0.mk ha
  have HNM := Aside0.mk hnm
  have HZ := Aside0.mk hz
  have HE := Aside0.mk (heldT_eq p)
  have HIH := Aside0.mk IH
  have HIHP := Aside0.mk IHP
  have z0 : w0.cell? ⟨w.heap.size, 0, none⟩ = some (.int .i64 p.kind) := (blk_cell hn0 0).trans rfl
  have z1 : w0.cell? ⟨w.heap.size, 1, none⟩ = some (.int .i64 p.n) := (blk_cell hn0 1).trans rfl
  have z2 : w0.cell? ⟨w.heap.size, 2, none⟩ = some (.slice A p.path.length c) := (blk_cell hn0 2).trans rfl
  have z3 : w0.cell? ⟨w.heap.size, 3, none⟩ = some (.slice B p.args.length d) := (blk_cell hn0 3).trans rfl
  clear hbox hn0 hp ha hnm hz IH IHP
  by_cases hn : p.n = 0
  · by_cases hk2 : p.kind = 2
    · by_cases hl0 : p.args.length = 0
      · have hr : heldT p = pathT false p.path := by rw [HE.out, if_neg (by simp [hn]), if_pos ⟨hk2, hl0⟩]
        have hz := HZ.out
        rw [hr] at hz ⊢
        have hcall := HIHP.out _ false w0 A c p.path (stepsAt_below HP.out HB.out) ((nmP_eq p).1 HNM.out).2.1 hz
        have hi0 : ¬ (0 : Int) < (p.args.length : Int) := by omega
        clear HE HZ hz hr HIH HIHP
        try simp only [*] at hw0
        go_enter Tryz.func49, Tryz.ntmps49
        go_wp2_with fail
        go_at_call 17
        refine hcall.mono ?_
        rintro e w1 ⟨q, rfl, hq1, hq2, hb1⟩
        have HPO : Aside0 (RWPost (pathT false p.path) w (.returned (.tuple #[.string q, .bool (pathT false p.path).2])) w1) := ⟨⟨q, rfl, hq1, hq2, below_step HB.out hb1⟩⟩
        clear hcall hq1 hq2 hb1 z0 z1 z2 z3
        go_wp2
        go_ret2
        exact HPO.out
      · have hr : heldT p = (⟨#[]⟩, false) := by rw [HE.out]; simp [hn, hk2, hl0]
        have HPO : Aside0 (RWPost (heldT p) w (.returned (.tuple #[.string ⟨#[]⟩, .bool false])) w0) := ⟨by rw [hr]; exact ⟨⟨#[]⟩, rfl, (fun h => by cases h), Nat.le_refl _, HB.out⟩⟩
        clear hr HE HZ
        have hi0 : (0 : Int) < (p.args.length : Int) := by omega
        try simp only [*] at hw0
        go_enter Tryz.func49, Tryz.ntmps49
        go_wp2
        go_ret2
        exact HPO.out
    · by_cases hpl : p.path.length = 0
      · by_cases hk5 : p.kind = 5
        · by_cases hl1 : p.args.length = 1
          · obtain ⟨xa, hxa⟩ : ∃ xa, p.args[0]? = some xa := ⟨_, List.getElem?_eq_getElem (by omega)⟩
            obtain ⟨m, ad, d', ua, va, hnm, he, hok, hpa, haa, x0, x1, x2, x3⟩ := HA.out.getP hxa
            simp only [Value.slice.injEq, true_and] at he
            obtain ⟨rfl, rfl⟩ := he
            obtain ⟨A1, c1, rfl, hc3, hc4⟩ := hpa.slice
            obtain ⟨B1, d1, rfl, hd3, hd4⟩ := haa.slice
            have a0 : ∀ d : Addr, d.add (0 * 4) = d := fun d => by simp [Addr.add]
            have a4 : ∀ d : Addr, d.add (1 * 4) = ⟨d.block, d.off + 4, none⟩ := fun d => by simp [Addr.add]
            simp only [a0] at x0 x1 x2 x3
            have hab : p.args = [xa] := by
              match hq : p.args, hl1 with
              | [u], _ => rw [hq] at hxa; simp at hxa; rw [hxa]
            have y0 := pw_cell_below HB.out x0
            have y1 := pw_cell_below HB.out x1
            have y2 := pw_cell_below HB.out x2
            have y3 := pw_cell_below HB.out x3
            obtain ⟨r, hr1⟩ : ∃ r, r = heldT xa := ⟨_, rfl⟩
            have HR : Aside0 (heldT p = (⟨#[110, 111, 116, 40]⟩ ++ r.1 ++ tRp, r.2)) := ⟨by rw [HE.out, if_neg (by simp [hn]), if_neg (by simp [hk5]), if_pos ⟨hk5, hl1, hpl⟩, hab, hr1]⟩
            have hsz := HZ.out
            rw [HR.out] at hsz
            simp only [ByteArray.size_append] at hsz
            unfold szMax at hsz
            have hj : (⟨#[110, 111, 116, 40]⟩ : ByteArray).size = 4 := rfl
            have hj2 : tRp.size = 1 := rfl
            rw [hj, hj2] at hsz
            have hcall := HIH.out m (by omega) _ w0 A1 B1 c1 d1 xa (stepsAt_below hpa HB.out) (predsAt_below haa HB.out) ((nmPs_iff _).1 ((nmP_eq p).1 HNM.out).2.2 xa (List.mem_of_getElem? hxa)) (by rw [← hr1]; unfold szMax; omega)
            rw [← hr1] at hcall
            have hi0 : (p.args.length : Int) = 1 := by omega
            have hi1 : ¬ (0 : Int) < (p.path.length : Int) := by omega
            clear HE HZ hj hj2 hr1 hab hxa HA HP HIH HIHP HNM x0 x1 x2 x3 hpa haa a0 a4 hok
            try simp only [*] at hw0
            go_enter Tryz.func49, Tryz.ntmps49
            go_wp2_with fail
            go_at_call 49
            refine hcall.mono ?_
            rintro e w1 ⟨q, rfl, hq1, hq2, hb1⟩
            have hz1 : ¬ 9223372036854775807 < 4 + q.size := by omega
            have hz2 : ¬ 9223372036854775807 < 4 + q.size + 1 := by omega
            have HPO : Aside0 (RWPost (heldT p) w (.returned (.tuple #[.string (⟨#[110, 111, 116, 40]⟩ ++ q ++ ⟨#[41]⟩), .bool r.2])) w1) := ⟨by rw [HR.out]; exact ⟨_, rfl, (fun h => by rw [hq1 h]; rfl), (by simp only [ByteArray.size_append]; show 4 + q.size + 1 ≤ 4 + r.1.size + 1; omega), below_step HB.out hb1⟩⟩
            clear hcall hq1 hq2 hb1 z0 z1 z2 z3 y0 y1 y2 y3
            go_wp2
            go_ret2
            exact HPO.out
          · have hr : heldT p = (⟨#[]⟩, false) := by rw [HE.out]; simp [hn, hk5, hl1]
            have HPO : Aside0 (RWPost (heldT p) w (.returned (.tuple #[.string ⟨#[]⟩, .bool false])) w0) := ⟨by rw [hr]; exact ⟨⟨#[]⟩, rfl, (fun h => by cases h), Nat.le_refl _, HB.out⟩⟩
            clear hr HE HZ
            have hi0 : ¬ (p.args.length : Int) = 1 := by omega
            have hi1 : ¬ (0 : Int) < (p.path.length : Int) := by omega
            try simp only [*] at hw0
            go_enter Tryz.func49, Tryz.ntmps49
            go_wp2
            go_ret2
            exact HPO.out
        · by_cases hk3 : p.kind = 3
          · by_cases hl : p.args.length = 2
            · obtain ⟨xa, hxa⟩ : ∃ xa, p.args[0]? = some xa := ⟨_, List.getElem?_eq_getElem (by omega)⟩
              obtain ⟨m, ad, d', ua, va, hnm, he, hok, hpa, haa, x0, x1, x2, x3⟩ := HA.out.getP hxa
              simp only [Value.slice.injEq, true_and] at he
              obtain ⟨rfl, rfl⟩ := he
              obtain ⟨A1, c1, rfl, hc3, hc4⟩ := hpa.slice
              obtain ⟨B1, d1, rfl, hd3, hd4⟩ := haa.slice
              have a0 : ∀ d : Addr, d.add (0 * 4) = d := fun d => by simp [Addr.add]
              have a4 : ∀ d : Addr, d.add (1 * 4) = ⟨d.block, d.off + 4, none⟩ := fun d => by simp [Addr.add]
              simp only [a0] at x0 x1 x2 x3
              obtain ⟨xb, hxb⟩ : ∃ xb, p.args[1]? = some xb := ⟨_, List.getElem?_eq_getElem (by omega)⟩
              obtain ⟨m', ad', d'', ub, vb, hnm', he, hok', hpb, hab2, y0, y1, y2, y3⟩ := HA.out.getP hxb
              simp only [Value.slice.injEq, true_and, and_true, Option.some.injEq] at he
              obtain ⟨rfl, rfl⟩ := he
              obtain rfl : m = m' := by omega
              obtain ⟨A2, c2, rfl, hc5, hc6⟩ := hpb.slice
              obtain ⟨B2, d2, rfl, hd5, hd6⟩ := hab2.slice
              simp only [a4] at y0 y1 y2 y3
              have hab : p.args = [xa, xb] := by
                match hq : p.args, hl with
                | [u, v], _ => rw [hq] at hxa hxb; simp at hxa hxb; rw [hxa, hxb]
              have s0 := pw_cell_below HB.out x0
              have t0 := pw_cell_below HB.out y0
              have s1 := pw_cell_below HB.out x1
              have t1 := pw_cell_below HB.out y1
              have s2 := pw_cell_below HB.out x2
              have t2 := pw_cell_below HB.out y2
              have s3 := pw_cell_below HB.out x3
              have t3 := pw_cell_below HB.out y3
              obtain ⟨r1, hr1⟩ : ∃ r1, r1 = heldT xa := ⟨_, rfl⟩
              obtain ⟨r2, hr2⟩ : ∃ r2, r2 = heldT xb := ⟨_, rfl⟩
              have HR : Aside0 (heldT p = (inP (([4] : List Int).contains xa.kind) r1.1 ++ ⟨#[32, 97, 110, 100, 32]⟩ ++ inP (([4, 3] : List Int).contains xb.kind) r2.1, r1.2 && r2.2)) := ⟨by rw [HE.out, if_neg (by simp [hn]), if_neg (by simp [hk3]), if_neg (by simp [hk3]), if_pos ⟨hk3, hl, hpl⟩, hab, hr1, hr2]; rfl⟩
              have hsz := HZ.out
              rw [HR.out] at hsz
              simp only [ByteArray.size_append] at hsz
              unfold szMax at hsz
              have hj : (⟨#[32, 97, 110, 100, 32]⟩ : ByteArray).size = 5 := rfl
              rw [hj] at hsz
              have hg1 : r1.1.size ≤ (inP (([4] : List Int).contains xa.kind) r1.1).size := inP_ge _ _
              have hg2 : r2.1.size ≤ (inP (([4, 3] : List Int).contains xb.kind) r2.1).size := inP_ge _ _
              obtain ⟨_, _, hnps⟩ := (nmP_eq p).1 HNM.out
              have hnms := (nmPs_iff _).1 hnps
              have hcall1 := HIH.out m (by omega) _ w0 A1 B1 c1 d1 xa (stepsAt_below hpa HB.out) (predsAt_below haa HB.out) (hnms xa (List.mem_of_getElem? hxa)) (by rw [← hr1]; unfold szMax; omega)
              rw [← hr1] at hcall1
              have HC2 : Aside0 (∀ w', Below w.heap.size w w' → Calls Tryz.prog 49 #[.agg #[.int .i64 xb.kind, .int .i64 xb.n, .slice A2 xb.path.length c2, .slice B2 xb.args.length d2]] w' (RWPost r2 w')) := ⟨fun w' hb => by rw [hr2]; exact HIH.out m (by omega) _ w' A2 B2 c2 d2 xb (stepsAt_below hpb hb) (predsAt_below hab2 hb) (hnms xb (List.mem_of_getElem? hxb)) (by rw [← hr2]; unfold szMax; omega)⟩
              have hi0 : (p.args.length : Int) = 2 := by omega
              have hi1 : ¬ (0 : Int) < (p.path.length : Int) := by omega
              clear HE HZ hj hr1 hr2 hab hxa hxb HA HP HIH HIHP HNM hnps hnms x0 x1 x2 x3 y0 y1 y2 y3 hpa haa hpb hab2 a0 a4 hok hok'
              try simp only [*] at hw0
              go_enter Tryz.func49, Tryz.ntmps49
              go_wp2_with fail
              go_at_call 49
              refine hcall1.mono ?_
              rintro e w1 ⟨q1, rfl, ha1, ha2, hb1⟩
              have z0 := pw_cell_below hb1 z0
              have z1 := pw_cell_below hb1 z1
              have z2 := pw_cell_below hb1 z2
              have z3 := pw_cell_below hb1 z3
              have s0 := pw_cell_below hb1 s0
              have s1 := pw_cell_below hb1 s1
              have s2 := pw_cell_below hb1 s2
              have s3 := pw_cell_below hb1 s3
              have t0 := pw_cell_below hb1 t0
              have t1 := pw_cell_below hb1 t1
              have t2 := pw_cell_below hb1 t2
              have t3 := pw_cell_below hb1 t3
              have hcall2 := HC2.out w1 (below_step HB.out hb1)
              have HB1 := Aside0.mk (below_step HB.out hb1)
              clear hcall1 hb1
              go_wp2_with fail
              go_at_call 49
              refine hcall2.mono ?_
              rintro e w2 ⟨q2, rfl, hb2, hb3, hb1⟩
              have z0 := pw_cell_below hb1 z0
              have z1 := pw_cell_below hb1 z1
              have z2 := pw_cell_below hb1 z2
              have z3 := pw_cell_below hb1 z3
              have s0 := pw_cell_below hb1 s0
              have s1 := pw_cell_below hb1 s1
              have s2 := pw_cell_below hb1 s2
              have s3 := pw_cell_below hb1 s3
              have t0 := pw_cell_below hb1 t0
              have t1 := pw_cell_below hb1 t1
              have t2 := pw_cell_below hb1 t2
              have t3 := pw_cell_below hb1 t3
              have HB2 := Aside0.mk (below_step HB1.out hb1)
              clear hcall2 hb1
              by_cases hao : xa.kind = 4
              · by_cases hbo : xb.kind = 4
                · have hq1 : (tLp ++ q1 ++ tRp) = inP (([4] : List Int).contains xa.kind) q1 := by rw [inP, if_pos (by simp [hao])]
                  have hq2 : (tLp ++ q2 ++ tRp) = inP (([4, 3] : List Int).contains xb.kind) q2 := by rw [inP, if_pos (by simp [hbo])]
                  have hl1 := inP_mono (([4] : List Int).contains xa.kind) ha2
                  have hl2 := inP_mono (([4, 3] : List Int).contains xb.kind) hb3
                  have HPO : Aside0 (RWPost (heldT p) w (.returned (.tuple #[.string ((tLp ++ q1 ++ tRp) ++ ⟨#[32, 97, 110, 100, 32]⟩ ++ (tLp ++ q2 ++ tRp)), .bool (r1.2 && r2.2)])) w2) := ⟨by rw [HR.out, hq1, hq2]; exact ⟨_, rfl, (fun h => by rw [Bool.and_eq_true] at h; rw [ha1 h.1, hb2 h.2]), (by simp only [ByteArray.size_append]; omega), HB2.out⟩⟩
                  have hz1 : ¬ 9223372036854775807 < 1 + q1.size := by omega
                  have hz2 : ¬ 9223372036854775807 < 1 + q1.size + 1 := by omega
                  have hz3 : ¬ 9223372036854775807 < 1 + q2.size := by omega
                  have hz4 : ¬ 9223372036854775807 < 1 + q2.size + 1 := by omega
                  have hz5 : ¬ 9223372036854775807 < 1 + q1.size + 1 + 5 := by omega
                  have hz6 : ¬ 9223372036854775807 < 1 + q1.size + 1 + 5 + (1 + q2.size + 1) := by omega
                  clear hq1 hq2 hl1 hl2 ha1 ha2 hb2 hb3
                  cases hf1 : r1.2 <;> rw [hf1] at HPO <;> go_wp2 <;> go_ret2 <;> exact HPO.out
                by_cases hbk : xb.kind = 3
                · have hq1 : (tLp ++ q1 ++ tRp) = inP (([4] : List Int).contains xa.kind) q1 := by rw [inP, if_pos (by simp [hao])]
                  have hq2 : (tLp ++ q2 ++ tRp) = inP (([4, 3] : List Int).contains xb.kind) q2 := by rw [inP, if_pos (by simp [hbk])]
                  have hl1 := inP_mono (([4] : List Int).contains xa.kind) ha2
                  have hl2 := inP_mono (([4, 3] : List Int).contains xb.kind) hb3
                  have HPO : Aside0 (RWPost (heldT p) w (.returned (.tuple #[.string ((tLp ++ q1 ++ tRp) ++ ⟨#[32, 97, 110, 100, 32]⟩ ++ (tLp ++ q2 ++ tRp)), .bool (r1.2 && r2.2)])) w2) := ⟨by rw [HR.out, hq1, hq2]; exact ⟨_, rfl, (fun h => by rw [Bool.and_eq_true] at h; rw [ha1 h.1, hb2 h.2]), (by simp only [ByteArray.size_append]; omega), HB2.out⟩⟩
                  have hz1 : ¬ 9223372036854775807 < 1 + q1.size := by omega
                  have hz2 : ¬ 9223372036854775807 < 1 + q1.size + 1 := by omega
                  have hz3 : ¬ 9223372036854775807 < 1 + q2.size := by omega
                  have hz4 : ¬ 9223372036854775807 < 1 + q2.size + 1 := by omega
                  have hz5 : ¬ 9223372036854775807 < 1 + q1.size + 1 + 5 := by omega
                  have hz6 : ¬ 9223372036854775807 < 1 + q1.size + 1 + 5 + (1 + q2.size + 1) := by omega
                  clear hq1 hq2 hl1 hl2 ha1 ha2 hb2 hb3
                  cases hf1 : r1.2 <;> rw [hf1] at HPO <;> go_wp2 <;> go_ret2 <;> exact HPO.out
                have hbo' : (xb.kind == 4) = false := by simpa using hbo
                have hbk' : (xb.kind == 3) = false := by simpa using hbk
                have hq1 : (tLp ++ q1 ++ tRp) = inP (([4] : List Int).contains xa.kind) q1 := by rw [inP, if_pos (by simp [hao])]
                have hq2 : q2 = inP (([4, 3] : List Int).contains xb.kind) q2 := by rw [inP, if_neg (by simp [hbo, hbk])]
                have hl1 := inP_mono (([4] : List Int).contains xa.kind) ha2
                have hl2 := inP_mono (([4, 3] : List Int).contains xb.kind) hb3
                have HPO : Aside0 (RWPost (heldT p) w (.returned (.tuple #[.string ((tLp ++ q1 ++ tRp) ++ ⟨#[32, 97, 110, 100, 32]⟩ ++ q2), .bool (r1.2 && r2.2)])) w2) := ⟨by rw [HR.out, hq1, hq2]; exact ⟨_, rfl, (fun h => by rw [Bool.and_eq_true] at h; rw [ha1 h.1, hb2 h.2]), (by simp only [ByteArray.size_append]; omega), HB2.out⟩⟩
                have hz1 : ¬ 9223372036854775807 < 1 + q1.size := by omega
                have hz2 : ¬ 9223372036854775807 < 1 + q1.size + 1 := by omega
                have hz3 : ¬ 9223372036854775807 < 1 + q2.size := by omega
                have hz4 : ¬ 9223372036854775807 < 1 + q2.size + 1 := by omega
                have hz5 : ¬ 9223372036854775807 < 1 + q1.size + 1 + 5 := by omega
                have hz6 : ¬ 9223372036854775807 < 1 + q1.size + 1 + 5 + (q2.size) := by omega
                clear hq1 hq2 hl1 hl2 ha1 ha2 hb2 hb3
                cases hf1 : r1.2 <;> rw [hf1] at HPO <;> go_wp2 <;> go_ret2 <;> exact HPO.out
              by_cases hbo : xb.kind = 4
              · have hq1 : q1 = inP (([4] : List Int).contains xa.kind) q1 := by rw [inP, if_neg (by simp [hao])]
                have hq2 : (tLp ++ q2 ++ tRp) = inP (([4, 3] : List Int).contains xb.kind) q2 := by rw [inP, if_pos (by simp [hbo])]
                have hl1 := inP_mono (([4] : List Int).contains xa.kind) ha2
                have hl2 := inP_mono (([4, 3] : List Int).contains xb.kind) hb3
                have HPO : Aside0 (RWPost (heldT p) w (.returned (.tuple #[.string (q1 ++ ⟨#[32, 97, 110, 100, 32]⟩ ++ (tLp ++ q2 ++ tRp)), .bool (r1.2 && r2.2)])) w2) := ⟨by rw [HR.out, hq1, hq2]; exact ⟨_, rfl, (fun h => by rw [Bool.and_eq_true] at h; rw [ha1 h.1, hb2 h.2]), (by simp only [ByteArray.size_append]; omega), HB2.out⟩⟩
                have hz1 : ¬ 9223372036854775807 < 1 + q1.size := by omega
                have hz2 : ¬ 9223372036854775807 < 1 + q1.size + 1 := by omega
                have hz3 : ¬ 9223372036854775807 < 1 + q2.size := by omega
                have hz4 : ¬ 9223372036854775807 < 1 + q2.size + 1 := by omega
                have hz5 : ¬ 9223372036854775807 < q1.size + 5 := by omega
                have hz6 : ¬ 9223372036854775807 < q1.size + 5 + (1 + q2.size + 1) := by omega
                clear hq1 hq2 hl1 hl2 ha1 ha2 hb2 hb3
                cases hf1 : r1.2 <;> rw [hf1] at HPO <;> go_wp2 <;> go_ret2 <;> exact HPO.out
              by_cases hbk : xb.kind = 3
              · have hq1 : q1 = inP (([4] : List Int).contains xa.kind) q1 := by rw [inP, if_neg (by simp [hao])]
                have hq2 : (tLp ++ q2 ++ tRp) = inP (([4, 3] : List Int).contains xb.kind) q2 := by rw [inP, if_pos (by simp [hbk])]
                have hl1 := inP_mono (([4] : List Int).contains xa.kind) ha2
                have hl2 := inP_mono (([4, 3] : List Int).contains xb.kind) hb3
                have HPO : Aside0 (RWPost (heldT p) w (.returned (.tuple #[.string (q1 ++ ⟨#[32, 97, 110, 100, 32]⟩ ++ (tLp ++ q2 ++ tRp)), .bool (r1.2 && r2.2)])) w2) := ⟨by rw [HR.out, hq1, hq2]; exact ⟨_, rfl, (fun h => by rw [Bool.and_eq_true] at h; rw [ha1 h.1, hb2 h.2]), (by simp only [ByteArray.size_append]; omega), HB2.out⟩⟩
                have hz1 : ¬ 9223372036854775807 < 1 + q1.size := by omega
                have hz2 : ¬ 9223372036854775807 < 1 + q1.size + 1 := by omega
                have hz3 : ¬ 9223372036854775807 < 1 + q2.size := by omega
                have hz4 : ¬ 9223372036854775807 < 1 + q2.size + 1 := by omega
                have hz5 : ¬ 9223372036854775807 < q1.size + 5 := by omega
                have hz6 : ¬ 9223372036854775807 < q1.size + 5 + (1 + q2.size + 1) := by omega
                clear hq1 hq2 hl1 hl2 ha1 ha2 hb2 hb3
                cases hf1 : r1.2 <;> rw [hf1] at HPO <;> go_wp2 <;> go_ret2 <;> exact HPO.out
              have hbo' : (xb.kind == 4) = false := by simpa using hbo
              have hbk' : (xb.kind == 3) = false := by simpa using hbk
              have hq1 : q1 = inP (([4] : List Int).contains xa.kind) q1 := by rw [inP, if_neg (by simp [hao])]
              have hq2 : q2 = inP (([4, 3] : List Int).contains xb.kind) q2 := by rw [inP, if_neg (by simp [hbo, hbk])]
              have hl1 := inP_mono (([4] : List Int).contains xa.kind) ha2
              have hl2 := inP_mono (([4, 3] : List Int).contains xb.kind) hb3
              have HPO : Aside0 (RWPost (heldT p) w (.returned (.tuple #[.string (q1 ++ ⟨#[32, 97, 110, 100, 32]⟩ ++ q2), .bool (r1.2 && r2.2)])) w2) := ⟨by rw [HR.out, hq1, hq2]; exact ⟨_, rfl, (fun h => by rw [Bool.and_eq_true] at h; rw [ha1 h.1, hb2 h.2]), (by simp only [ByteArray.size_append]; omega), HB2.out⟩⟩
              have hz1 : ¬ 9223372036854775807 < 1 + q1.size := by omega
              have hz2 : ¬ 9223372036854775807 < 1 + q1.size + 1 := by omega
              have hz3 : ¬ 9223372036854775807 < 1 + q2.size := by omega
              have hz4 : ¬ 9223372036854775807 < 1 + q2.size + 1 := by omega
              have hz5 : ¬ 9223372036854775807 < q1.size + 5 := by omega
              have hz6 : ¬ 9223372036854775807 < q1.size + 5 + (q2.size) := by omega
              clear hq1 hq2 hl1 hl2 ha1 ha2 hb2 hb3
              cases hf1 : r1.2 <;> rw [hf1] at HPO <;> go_wp2 <;> go_ret2 <;> exact HPO.out
            · have hr : heldT p = (⟨#[]⟩, false) := by rw [HE.out]; simp [hn, hk3, hl]
              have HPO : Aside0 (RWPost (heldT p) w (.returned (.tuple #[.string ⟨#[]⟩, .bool false])) w0) := ⟨by rw [hr]; exact ⟨⟨#[]⟩, rfl, (fun h => by cases h), Nat.le_refl _, HB.out⟩⟩
              clear hr HE HZ
              have hi0 : ¬ (p.args.length : Int) = 2 := by omega
              have hi1 : ¬ (0 : Int) < (p.path.length : Int) := by omega
              try simp only [*] at hw0
              go_enter Tryz.func49, Tryz.ntmps49
              go_wp2
              go_ret2
              exact HPO.out
          · by_cases hk4 : p.kind = 4
            · by_cases hl : p.args.length = 2
              · obtain ⟨xa, hxa⟩ : ∃ xa, p.args[0]? = some xa := ⟨_, List.getElem?_eq_getElem (by omega)⟩
                obtain ⟨m, ad, d', ua, va, hnm, he, hok, hpa, haa, x0, x1, x2, x3⟩ := HA.out.getP hxa
                simp only [Value.slice.injEq, true_and] at he
                obtain ⟨rfl, rfl⟩ := he
                obtain ⟨A1, c1, rfl, hc3, hc4⟩ := hpa.slice
                obtain ⟨B1, d1, rfl, hd3, hd4⟩ := haa.slice
                have a0 : ∀ d : Addr, d.add (0 * 4) = d := fun d => by simp [Addr.add]
                have a4 : ∀ d : Addr, d.add (1 * 4) = ⟨d.block, d.off + 4, none⟩ := fun d => by simp [Addr.add]
                simp only [a0] at x0 x1 x2 x3
                obtain ⟨xb, hxb⟩ : ∃ xb, p.args[1]? = some xb := ⟨_, List.getElem?_eq_getElem (by omega)⟩
                obtain ⟨m', ad', d'', ub, vb, hnm', he, hok', hpb, hab2, y0, y1, y2, y3⟩ := HA.out.getP hxb
                simp only [Value.slice.injEq, true_and, and_true, Option.some.injEq] at he
                obtain ⟨rfl, rfl⟩ := he
                obtain rfl : m = m' := by omega
                obtain ⟨A2, c2, rfl, hc5, hc6⟩ := hpb.slice
                obtain ⟨B2, d2, rfl, hd5, hd6⟩ := hab2.slice
                simp only [a4] at y0 y1 y2 y3
                have hab : p.args = [xa, xb] := by
                  match hq : p.args, hl with
                  | [u, v], _ => rw [hq] at hxa hxb; simp at hxa hxb; rw [hxa, hxb]
                have s0 := pw_cell_below HB.out x0
                have t0 := pw_cell_below HB.out y0
                have s1 := pw_cell_below HB.out x1
                have t1 := pw_cell_below HB.out y1
                have s2 := pw_cell_below HB.out x2
                have t2 := pw_cell_below HB.out y2
                have s3 := pw_cell_below HB.out x3
                have t3 := pw_cell_below HB.out y3
                obtain ⟨r1, hr1⟩ : ∃ r1, r1 = heldT xa := ⟨_, rfl⟩
                obtain ⟨r2, hr2⟩ : ∃ r2, r2 = heldT xb := ⟨_, rfl⟩
                have HR : Aside0 (heldT p = (inP (([] : List Int).contains xa.kind) r1.1 ++ ⟨#[32, 111, 114, 32]⟩ ++ inP (([4] : List Int).contains xb.kind) r2.1, r1.2 && r2.2)) := ⟨by rw [HE.out, if_neg (by simp [hn]), if_neg (by simp [hk4]), if_neg (by simp [hk4]), if_neg (by simp [hk4]), if_pos ⟨hk4, hl, hpl⟩, hab, hr1, hr2]; rfl⟩
                have hsz := HZ.out
                rw [HR.out] at hsz
                simp only [ByteArray.size_append] at hsz
                unfold szMax at hsz
                have hj : (⟨#[32, 111, 114, 32]⟩ : ByteArray).size = 4 := rfl
                rw [hj] at hsz
                have hg1 : r1.1.size ≤ (inP (([] : List Int).contains xa.kind) r1.1).size := inP_ge _ _
                have hg2 : r2.1.size ≤ (inP (([4] : List Int).contains xb.kind) r2.1).size := inP_ge _ _
                obtain ⟨_, _, hnps⟩ := (nmP_eq p).1 HNM.out
                have hnms := (nmPs_iff _).1 hnps
                have hcall1 := HIH.out m (by omega) _ w0 A1 B1 c1 d1 xa (stepsAt_below hpa HB.out) (predsAt_below haa HB.out) (hnms xa (List.mem_of_getElem? hxa)) (by rw [← hr1]; unfold szMax; omega)
                rw [← hr1] at hcall1
                have HC2 : Aside0 (∀ w', Below w.heap.size w w' → Calls Tryz.prog 49 #[.agg #[.int .i64 xb.kind, .int .i64 xb.n, .slice A2 xb.path.length c2, .slice B2 xb.args.length d2]] w' (RWPost r2 w')) := ⟨fun w' hb => by rw [hr2]; exact HIH.out m (by omega) _ w' A2 B2 c2 d2 xb (stepsAt_below hpb hb) (predsAt_below hab2 hb) (hnms xb (List.mem_of_getElem? hxb)) (by rw [← hr2]; unfold szMax; omega)⟩
                have hi0 : (p.args.length : Int) = 2 := by omega
                have hi1 : ¬ (0 : Int) < (p.path.length : Int) := by omega
                clear HE HZ hj hr1 hr2 hab hxa hxb HA HP HIH HIHP HNM hnps hnms x0 x1 x2 x3 y0 y1 y2 y3 hpa haa hpb hab2 a0 a4 hok hok'
                try simp only [*] at hw0
                go_enter Tryz.func49, Tryz.ntmps49
                go_wp2_with fail
                go_at_call 49
                refine hcall1.mono ?_
                rintro e w1 ⟨q1, rfl, ha1, ha2, hb1⟩
                have z0 := pw_cell_below hb1 z0
                have z1 := pw_cell_below hb1 z1
                have z2 := pw_cell_below hb1 z2
                have z3 := pw_cell_below hb1 z3
                have s0 := pw_cell_below hb1 s0
                have s1 := pw_cell_below hb1 s1
                have s2 := pw_cell_below hb1 s2
                have s3 := pw_cell_below hb1 s3
                have t0 := pw_cell_below hb1 t0
                have t1 := pw_cell_below hb1 t1
                have t2 := pw_cell_below hb1 t2
                have t3 := pw_cell_below hb1 t3
                have hcall2 := HC2.out w1 (below_step HB.out hb1)
                have HB1 := Aside0.mk (below_step HB.out hb1)
                clear hcall1 hb1
                go_wp2_with fail
                go_at_call 49
                refine hcall2.mono ?_
                rintro e w2 ⟨q2, rfl, hb2, hb3, hb1⟩
                have z0 := pw_cell_below hb1 z0
                have z1 := pw_cell_below hb1 z1
                have z2 := pw_cell_below hb1 z2
                have z3 := pw_cell_below hb1 z3
                have s0 := pw_cell_below hb1 s0
                have s1 := pw_cell_below hb1 s1
                have s2 := pw_cell_below hb1 s2
                have s3 := pw_cell_below hb1 s3
                have t0 := pw_cell_below hb1 t0
                have t1 := pw_cell_below hb1 t1
                have t2 := pw_cell_below hb1 t2
                have t3 := pw_cell_below hb1 t3
                have HB2 := Aside0.mk (below_step HB1.out hb1)
                clear hcall2 hb1
                by_cases hbo : xb.kind = 4
                · have hq1 : q1 = inP (([] : List Int).contains xa.kind) q1 := by rw [inP, if_neg (by simp)]
                  have hq2 : (tLp ++ q2 ++ tRp) = inP (([4] : List Int).contains xb.kind) q2 := by rw [inP, if_pos (by simp [hbo])]
                  have hl1 := inP_mono (([] : List Int).contains xa.kind) ha2
                  have hl2 := inP_mono (([4] : List Int).contains xb.kind) hb3
                  have HPO : Aside0 (RWPost (heldT p) w (.returned (.tuple #[.string (q1 ++ ⟨#[32, 111, 114, 32]⟩ ++ (tLp ++ q2 ++ tRp)), .bool (r1.2 && r2.2)])) w2) := ⟨by rw [HR.out, hq1, hq2]; exact ⟨_, rfl, (fun h => by rw [Bool.and_eq_true] at h; rw [ha1 h.1, hb2 h.2]), (by simp only [ByteArray.size_append]; omega), HB2.out⟩⟩
                  have hz1 : ¬ 9223372036854775807 < 1 + q1.size := by omega
                  have hz2 : ¬ 9223372036854775807 < 1 + q1.size + 1 := by omega
                  have hz3 : ¬ 9223372036854775807 < 1 + q2.size := by omega
                  have hz4 : ¬ 9223372036854775807 < 1 + q2.size + 1 := by omega
                  have hz5 : ¬ 9223372036854775807 < q1.size + 4 := by omega
                  have hz6 : ¬ 9223372036854775807 < q1.size + 4 + (1 + q2.size + 1) := by omega
                  clear hq1 hq2 hl1 hl2 ha1 ha2 hb2 hb3
                  cases hf1 : r1.2 <;> rw [hf1] at HPO <;> go_wp2 <;> go_ret2 <;> exact HPO.out
                have hq1 : q1 = inP (([] : List Int).contains xa.kind) q1 := by rw [inP, if_neg (by simp)]
                have hq2 : q2 = inP (([4] : List Int).contains xb.kind) q2 := by rw [inP, if_neg (by simp [hbo])]
                have hl1 := inP_mono (([] : List Int).contains xa.kind) ha2
                have hl2 := inP_mono (([4] : List Int).contains xb.kind) hb3
                have HPO : Aside0 (RWPost (heldT p) w (.returned (.tuple #[.string (q1 ++ ⟨#[32, 111, 114, 32]⟩ ++ q2), .bool (r1.2 && r2.2)])) w2) := ⟨by rw [HR.out, hq1, hq2]; exact ⟨_, rfl, (fun h => by rw [Bool.and_eq_true] at h; rw [ha1 h.1, hb2 h.2]), (by simp only [ByteArray.size_append]; omega), HB2.out⟩⟩
                have hz1 : ¬ 9223372036854775807 < 1 + q1.size := by omega
                have hz2 : ¬ 9223372036854775807 < 1 + q1.size + 1 := by omega
                have hz3 : ¬ 9223372036854775807 < 1 + q2.size := by omega
                have hz4 : ¬ 9223372036854775807 < 1 + q2.size + 1 := by omega
                have hz5 : ¬ 9223372036854775807 < q1.size + 4 := by omega
                have hz6 : ¬ 9223372036854775807 < q1.size + 4 + (q2.size) := by omega
                clear hq1 hq2 hl1 hl2 ha1 ha2 hb2 hb3
                cases hf1 : r1.2 <;> rw [hf1] at HPO <;> go_wp2 <;> go_ret2 <;> exact HPO.out
              · have hr : heldT p = (⟨#[]⟩, false) := by rw [HE.out]; simp [hn, hk4, hl]
                have HPO : Aside0 (RWPost (heldT p) w (.returned (.tuple #[.string ⟨#[]⟩, .bool false])) w0) := ⟨by rw [hr]; exact ⟨⟨#[]⟩, rfl, (fun h => by cases h), Nat.le_refl _, HB.out⟩⟩
                clear hr HE HZ
                have hi0 : ¬ (p.args.length : Int) = 2 := by omega
                have hi1 : ¬ (0 : Int) < (p.path.length : Int) := by omega
                try simp only [*] at hw0
                go_enter Tryz.func49, Tryz.ntmps49
                go_wp2
                go_ret2
                exact HPO.out
            · have hr : heldT p = (⟨#[]⟩, false) := by rw [HE.out]; simp [hn, hk2, hk5, hk3, hk4]
              have HPO : Aside0 (RWPost (heldT p) w (.returned (.tuple #[.string ⟨#[]⟩, .bool false])) w0) := ⟨by rw [hr]; exact ⟨⟨#[]⟩, rfl, (fun h => by cases h), Nat.le_refl _, HB.out⟩⟩
              clear hr HE HZ
              have hi0 : ¬ (0 : Int) < (p.path.length : Int) := by omega
              try simp only [*] at hw0
              go_enter Tryz.func49, Tryz.ntmps49
              go_wp2
              go_ret2
              exact HPO.out
      · have hr : heldT p = (⟨#[]⟩, false) := by rw [HE.out]; simp [hn, hk2, hpl]
        have HPO : Aside0 (RWPost (heldT p) w (.returned (.tuple #[.string ⟨#[]⟩, .bool false])) w0) := ⟨by rw [hr]; exact ⟨⟨#[]⟩, rfl, (fun h => by cases h), Nat.le_refl _, HB.out⟩⟩
        clear hr HE HZ
        have hi0 : (0 : Int) < (p.path.length : Int) := by omega
        try simp only [*] at hw0
        go_enter Tryz.func49, Tryz.ntmps49
        go_wp2
        go_ret2
        exact HPO.out
  · have hr : heldT p = (⟨#[]⟩, false) := by rw [HE.out]; simp [hn]
    have HPO : Aside0 (RWPost (heldT p) w (.returned (.tuple #[.string ⟨#[]⟩, .bool false])) w0) := ⟨by rw [hr]; exact ⟨⟨#[]⟩, rfl, (fun h => by cases h), Nat.le_refl _, HB.out⟩⟩
    clear hr HE HZ
    try simp only [*] at hw0
    go_enter Tryz.func49, Tryz.ntmps49
    go_wp2
    go_ret2
    exact HPO.out
end Go.Proofs.YtoanmoddppmffaaGreatDoor.T
