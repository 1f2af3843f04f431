/- The writer: what must hold and is no place. -/
import Derived.Test.YtoanmoddppmffaaGreatDoorXFf
import Derived.Test.YtoanmoddppmffaaGreatDoorXFg
import Derived.Test.YtoanmoddppmffaaGreatDoorXFc
namespace Go.Proofs.YtoanmoddppmffaaGreatDoor.T
open Go.RowKit Go.Shelf Go.Proofs.YtoanmoddppmffaaGreatDoorW.PrintWords
set_option linter.unusedVariables false
set_option linter.unusedSimpArgs false
theorem heldT_eq (p : Pred) : heldT p = (if p.n ≠ 0 then (⟨#[]⟩, false) else if p.kind = 2 ∧ p.args.length = 0 then pathT false p.path else if p.kind = 5 ∧ p.args.length = 1 ∧ p.path.length = 0 then
      match p.args with
      | [a] => (⟨#[110, 111, 116, 40]⟩ ++ (heldT a).1 ++ tRp, (heldT a).2)
      | _ => (⟨#[]⟩, false)
    else if p.kind = 3 ∧ p.args.length = 2 ∧ p.path.length = 0 then
      match p.args with
      | [a, b] => ((aroundT [4] a).1 ++ ⟨#[32, 97, 110, 100, 32]⟩ ++ (aroundT [4, 3] b).1, (aroundT [4] a).2 && (aroundT [4, 3] b).2)
      | _ => (⟨#[]⟩, false)
    else if p.kind = 4 ∧ p.args.length = 2 ∧ p.path.length = 0 then
      match p.args with
      | [a, b] => ((aroundT [] a).1 ++ ⟨#[32, 111, 114, 32]⟩ ++ (aroundT [4] b).1, (aroundT [] a).2 && (aroundT [4] b).2)
      | _ => (⟨#[]⟩, false)
    else (⟨#[]⟩, false)) := by
  obtain ⟨kind, n, path, args⟩ := p
  rw [heldT, argsT_eq]
  simp only [pathT]
  split
  · rfl
  split
  · rfl
  split
  · rename_i h; match args, h.2.1 with | [a], _ => rfl
  split
  · rename_i h; match args, h.2.1 with | [a, b], _ => simp [aroundT, inP]
  split
  · rename_i h; match args, h.2.1 with | [a, b], _ => simp [aroundT, inP]
  · rfl
set_option maxHeartbeats 4000000 in
set_option maxRecDepth 100000 in
theorem wHeld_any (n : Nat) (IHP : WPathC n) (IH : ∀ m, m < n → WHeldC m) : WHeldC n := by
  intro ok g b w A B c d p hp ha hW hnm hz
  obtain ⟨hpl1, hpl2⟩ : p.path.length ≤ c ∧ c ≤ maxLen := by obtain ⟨A', c', e, h1, h2⟩ := hp.slice; injection e with e1 e2 e3; omega
  obtain ⟨hal1, hal2⟩ : p.args.length ≤ d ∧ d ≤ maxLen := by obtain ⟨A', c', e, h1, h2⟩ := ha.slice; injection e with e1 e2 e3; omega
  have hbox : Below w.heap.size w (w.alloc (.cells #[.int .i64 p.kind, .int .i64 p.n, .slice A p.path.length c, .slice B p.args.length d] 41)) := below_alloc (Below.refl _ _) _
  have hn0 : (w.alloc (.cells #[.int .i64 p.kind, .int .i64 p.n, .slice A p.path.length c, .slice B p.args.length d] 41)).heap[w.heap.size]? = some (.cells #[.int .i64 p.kind, .int .i64 p.n, .slice A p.path.length c, .slice B p.args.length d] 41 (0, 0)) := blk_new _ _
  generalize hw0 : w.alloc (.cells #[.int .i64 p.kind, .int .i64 p.n, .slice A p.path.length c, .slice B p.args.length d] 41) = w0 at hbox hn0
  have HB := Aside0.mk hbox
  have HN0 := Aside0.mk hn0
  have HW := Aside0.mk hW
  have HP := Aside0.mk hp
  have HA := Aside0.mk ha
  have HNM := Aside0.mk hnm
  have HZ := Aside0.mk hz
  have HE := Aside0.mk (heldT_eq p)
  have HFAIL := Aside0.mk (wFails_any g b w0 (hW.below hbox).blk)
  have HIH := Aside0.mk IH
  have HIHP := Aside0.mk IHP
  have z0 : w0.cell? ⟨w.heap.size, 0, none⟩ = some (.int .i64 p.kind) := (blk_cell hn0 0).trans rfl
  have z1 : w0.cell? ⟨w.heap.size, 1, none⟩ = some (.int .i64 p.n) := (blk_cell hn0 1).trans rfl
  have z2 : w0.cell? ⟨w.heap.size, 2, none⟩ = some (.slice A p.path.length c) := (blk_cell hn0 2).trans rfl
  have z3 : w0.cell? ⟨w.heap.size, 3, none⟩ = some (.slice B p.args.length d) := (blk_cell hn0 3).trans rfl
  clear hbox hn0 hW hp ha hnm hz IH IHP
  by_cases hn : p.n = 0
  · by_cases hl : p.args.length = 2
    · by_cases hpl : p.path.length = 0
      · by_cases hk3 : p.kind = 3
        · obtain ⟨xa, hxa⟩ : ∃ xa, p.args[0]? = some xa := ⟨_, List.getElem?_eq_getElem (by omega)⟩
          obtain ⟨xb, hxb⟩ : ∃ xb, p.args[1]? = some xb := ⟨_, List.getElem?_eq_getElem (by omega)⟩
          have hab : p.args = [xa, xb] := by
            match hq : p.args, hl with
            | [u, v], _ => rw [hq] at hxa hxb; simp at hxa hxb; rw [hxa, hxb]
          obtain ⟨m, ad, d', ua, va, hnm, he, hok, hpa, haa, x0, x1, x2, x3⟩ := HA.out.getP hxa
          simp only [Value.slice.injEq, true_and] at he
          obtain ⟨rfl, rfl⟩ := he
          obtain ⟨m', ad', d'', ub, vb, hnm', he, hok', hpb, hab2, y0, y1, y2, y3⟩ := HA.out.getP hxb
          simp only [Value.slice.injEq, true_and, and_true, Option.some.injEq] at he
          obtain ⟨rfl, rfl⟩ := he
          obtain rfl : m = m' := by omega
          obtain ⟨A1, c1, rfl, hc3, hc4⟩ := hpa.slice
          obtain ⟨B1, d1, rfl, hd3, hd4⟩ := haa.slice
          obtain ⟨A2, c2, rfl, hc5, hc6⟩ := hpb.slice
          obtain ⟨B2, d2, rfl, hd5, hd6⟩ := hab2.slice
          have a0 : ∀ d : Addr, d.add (0 * 4) = d := fun d => by simp [Addr.add]
          have a4 : ∀ d : Addr, d.add (1 * 4) = ⟨d.block, d.off + 4, none⟩ := fun d => by simp [Addr.add]
          simp only [a0, a4] at x0 x1 x2 x3 y0 y1 y2 y3
          have z3' : w0.cell? ⟨w.heap.size, 3, none⟩ = some (.slice (some ad) 2 d) := by rw [z3, hl]
          have hgne : w.heap.size ≠ g := by have := blk_lt HW.out.blk; omega
          have adg : ad.block ≠ g := HW.out.off _ hok
          have KEY : Aside0 (∀ w', w0.grownBy w' (some g) → w'.cell? ⟨w.heap.size, 3, none⟩ = some (.slice (some ad) 2 d) ∧ w'.cell? ad = some (.int .i64 xa.kind) ∧ w'.cell? ⟨ad.block, ad.off + 1, none⟩ = some (.int .i64 xa.n) ∧ w'.cell? ⟨ad.block, ad.off + 2, none⟩ = some (.slice A1 xa.path.length c1) ∧ w'.cell? ⟨ad.block, ad.off + 3, none⟩ = some (.slice B1 xa.args.length d1) ∧ w'.cell? ⟨ad.block, ad.off + 4, none⟩ = some (.int .i64 xb.kind) ∧ w'.cell? ⟨ad.block, ad.off + 4 + 1, none⟩ = some (.int .i64 xb.n) ∧ w'.cell? ⟨ad.block, ad.off + 4 + 2, none⟩ = some (.slice A2 xb.path.length c2) ∧ w'.cell? ⟨ad.block, ad.off + 4 + 3, none⟩ = some (.slice B2 xb.args.length d2)) := ⟨fun w' hg => ⟨hg.cell z3' (fun e => by injection e with e; exact hgne e), hg.cell (pw_cell_below HB.out x0) (fun e => by injection e with e; exact adg e), hg.cell (pw_cell_below HB.out x1) (fun e => by injection e with e; exact adg e), hg.cell (pw_cell_below HB.out x2) (fun e => by injection e with e; exact adg e), hg.cell (pw_cell_below HB.out x3) (fun e => by injection e with e; exact adg e), hg.cell (pw_cell_below HB.out y0) (fun e => by injection e with e; exact adg e), hg.cell (pw_cell_below HB.out y1) (fun e => by injection e with e; exact adg e), hg.cell (pw_cell_below HB.out y2) (fun e => by injection e with e; exact adg e), hg.cell (pw_cell_below HB.out y3) (fun e => by injection e with e; exact adg e)⟩⟩
          obtain ⟨r1, hr1⟩ : ∃ r1, r1 = aroundT [4] xa := ⟨_, rfl⟩
          obtain ⟨r2, hr2⟩ : ∃ r2, r2 = aroundT [4, 3] xb := ⟨_, rfl⟩
          have HR : Aside0 (heldT p = (r1.1 ++ ⟨#[32, 97, 110, 100, 32]⟩ ++ r2.1, r1.2 && r2.2)) := ⟨by rw [HE.out, if_neg (by simp [hn]), if_neg (by simp [hk3]), if_neg (by simp [hk3]), if_pos ⟨hk3, hl, hpl⟩, hab, hr1, hr2]⟩
          have hsz := HZ.out
          rw [HR.out] at hsz
          simp only [ByteArray.size_append] at hsz
          unfold szMax at hsz
          have hj : (⟨#[32, 97, 110, 100, 32]⟩ : ByteArray).size = 5 := rfl
          rw [hj] at hsz
          have hz1 : ¬ 9223372036854775807 < r1.1.size + 5 := by omega
          have hz2 : ¬ 9223372036854775807 < r1.1.size + 5 + r2.1.size := by omega
          obtain ⟨_, _, hnps⟩ := (nmP_eq p).1 HNM.out
          have hnms := (nmPs_iff _).1 hnps
          have hAR := wAround_any m (HIH.out m (by omega))
          have HC1 : Aside0 (∀ (W : World) (hS : w0.grownBy W (some g)) {bx : Bool} (hG : W.heap[g]? = some (wrO bx)) {kv : Value} (hk : KindsAt g W kv [4]), Calls Tryz.prog 76 #[.pointer (some ⟨g, 0, none⟩), .agg #[.int .i64 xa.kind, .int .i64 xa.n, .slice A1 xa.path.length c1, .slice B1 xa.args.length d1], kv] W (WPost g bx r1 W)) := ⟨fun W hS bx hG kv hk => by
            have hgr := gb_trans (grown_of_below HB.out (some g)) hS (.inl rfl)
            rw [hr1]
            exact hAR _ g bx W A1 B1 c1 d1 xa kv _ (stepsAt_grown hpa HW.out.off hgr) (predsAt_grown haa HW.out.off hgr) ((HW.out.next hG hgr).weak (fun k hk => hk.1)) (hnms xa (List.mem_of_getElem? hxa)) (by rw [← hr1]; unfold szMax; omega) hk⟩
          have HC2 : Aside0 (∀ (W : World) (hS : w0.grownBy W (some g)) {bx : Bool} (hG : W.heap[g]? = some (wrO bx)) {kv : Value} (hk : KindsAt g W kv [4, 3]), Calls Tryz.prog 76 #[.pointer (some ⟨g, 0, none⟩), .agg #[.int .i64 xb.kind, .int .i64 xb.n, .slice A2 xb.path.length c2, .slice B2 xb.args.length d2], kv] W (WPost g bx r2 W)) := ⟨fun W hS bx hG kv hk => by
            have hgr := gb_trans (grown_of_below HB.out (some g)) hS (.inl rfl)
            rw [hr2]
            exact hAR _ g bx W A2 B2 c2 d2 xb kv _ (stepsAt_grown hpb HW.out.off hgr) (predsAt_grown hab2 HW.out.off hgr) ((HW.out.next hG hgr).weak (fun k hk => hk.1)) (hnms xb (List.mem_of_getElem? hxb)) (by rw [← hr2]; unfold szMax; omega) hk⟩
          have HK0 : Aside0 (∀ W, KindsAt g W (.slice none 0 0) []) := ⟨fun W => .inl ⟨rfl, rfl⟩⟩
          have HG0 := Aside0.mk (blk_below HW.out.blk HB.out)
          have hw0' : w.alloc (.cells #[.int .i64 3, .int .i64 0, .slice A 0 c, .slice (some ad) 2 d] 41) = w0 := by rw [← hw0, hk3, hn, hpl, hl]
          have hlp : (p.path.length : Int) = 0 := by omega
          have hla : (p.args.length : Int) = 2 := by omega
          clear hnps hnms hAR hr1 hr2 hsz hj hxa hxb hab HA HP HFAIL HIH HIHP x0 x1 x2 x3 y0 y1 y2 y3 hpa haa hpb hab2 a0 a4 HE HZ HNM hok hok' z3'
          rw [hk3] at z0
          go_enter Tryz.func65, Tryz.ntmps65
          go_upto_region 9 with fail
          refine B_region (fun w' => w0.grownBy w' (some g)) 17 (by kernel_rfl) (gb_drew (gb_refl _ _)) (fun hS => ?_)
          have hG : w0.drew.heap[g]? = some (wrO b) := HG0.out
          generalize w0.drew = W at hS hG ⊢
          refine B_takeD 17 67 (i := 0) (v := .pointer (some ⟨g, 0, none⟩)) rfl rfl (by kernel_rfl) (fun _ _ _ h => h) (by kernel_rfl) (fun w' hSw => ?_) hS ?_
          · obtain ⟨c0, c1, c2, c3, c4, c5, c6, c7, c8⟩ := KEY.out w' hSw; go_simp
          simp only [List.setIfInBounds_toArray, List.set_cons_zero, List.set_cons_succ]
          refine B_takeD 17 68 (i := 1) (v := .pointer (some ⟨w.heap.size, 3, none⟩)) rfl rfl (by kernel_rfl) (fun _ _ _ h => h) (by kernel_rfl) (fun w' hSw => ?_) hS ?_
          · obtain ⟨c0, c1, c2, c3, c4, c5, c6, c7, c8⟩ := KEY.out w' hSw; go_simp
          simp only [List.setIfInBounds_toArray, List.set_cons_zero, List.set_cons_succ]
          refine B_takeD 17 69 (i := 2) (v := .slice (some ad) 2 d) rfl rfl (by kernel_rfl) (fun _ _ _ h => h) (by kernel_rfl) (fun w' hSw => ?_) hS ?_
          · obtain ⟨c0, c1, c2, c3, c4, c5, c6, c7, c8⟩ := KEY.out w' hSw; go_simp
          simp only [List.setIfInBounds_toArray, List.set_cons_zero, List.set_cons_succ]
          refine B_takeD 17 70 (i := 3) (v := .pointer (some ad)) rfl rfl (by kernel_rfl) (fun _ _ _ h => h) (by kernel_rfl) (fun w' hSw => ?_) hS ?_
          · obtain ⟨c0, c1, c2, c3, c4, c5, c6, c7, c8⟩ := KEY.out w' hSw; go_simp
          simp only [List.setIfInBounds_toArray, List.set_cons_zero, List.set_cons_succ]
          refine B_takeD 17 71 (i := 4) (v := .agg #[.int .i64 xa.kind, .int .i64 xa.n, .slice A1 xa.path.length c1, .slice B1 xa.args.length d1]) rfl rfl (by kernel_rfl) (fun _ _ _ h => h) (by kernel_rfl) (fun w' hSw => ?_) hS ?_
          · obtain ⟨c0, c1, c2, c3, c4, c5, c6, c7, c8⟩ := KEY.out w' hSw; go_simp
          simp only [List.setIfInBounds_toArray, List.set_cons_zero, List.set_cons_succ]
          refine B_takeD 17 75 (i := 8) (v := .pointer (some ⟨g, 0, none⟩)) rfl rfl (by kernel_rfl) (fun _ _ _ h => h) (by kernel_rfl) (fun w' hSw => ?_) hS ?_
          · obtain ⟨c0, c1, c2, c3, c4, c5, c6, c7, c8⟩ := KEY.out w' hSw; go_simp
          simp only [List.setIfInBounds_toArray, List.set_cons_zero, List.set_cons_succ]
          refine B_takeD 17 76 (i := 9) (v := .pointer (some ⟨w.heap.size, 3, none⟩)) rfl rfl (by kernel_rfl) (fun _ _ _ h => h) (by kernel_rfl) (fun w' hSw => ?_) hS ?_
          · obtain ⟨c0, c1, c2, c3, c4, c5, c6, c7, c8⟩ := KEY.out w' hSw; go_simp
          simp only [List.setIfInBounds_toArray, List.set_cons_zero, List.set_cons_succ]
          refine B_takeD 17 77 (i := 10) (v := .slice (some ad) 2 d) rfl rfl (by kernel_rfl) (fun _ _ _ h => h) (by kernel_rfl) (fun w' hSw => ?_) hS ?_
          · obtain ⟨c0, c1, c2, c3, c4, c5, c6, c7, c8⟩ := KEY.out w' hSw; go_simp
          simp only [List.setIfInBounds_toArray, List.set_cons_zero, List.set_cons_succ]
          refine B_takeD 17 78 (i := 11) (v := .pointer (some (ad.add 4))) rfl rfl (by kernel_rfl) (fun _ _ _ h => h) (by kernel_rfl) (fun w' hSw => ?_) hS ?_
          · obtain ⟨c0, c1, c2, c3, c4, c5, c6, c7, c8⟩ := KEY.out w' hSw; go_simp
          simp only [List.setIfInBounds_toArray, List.set_cons_zero, List.set_cons_succ]
          refine B_takeD 17 79 (i := 12) (v := .agg #[.int .i64 xb.kind, .int .i64 xb.n, .slice A2 xb.path.length c2, .slice B2 xb.args.length d2]) rfl rfl (by kernel_rfl) (fun _ _ _ h => h) (by kernel_rfl) (fun w' hSw => ?_) hS ?_
          · obtain ⟨c0, c1, c2, c3, c4, c5, c6, c7, c8⟩ := KEY.out w' hSw; go_simp
          simp only [List.setIfInBounds_toArray, List.set_cons_zero, List.set_cons_succ]
          refine B_two (i := 5) (j := 13) rfl rfl (by kernel_rfl) (fun K' hK => ?_) (fun K' hK => ?_)
          · go_simp
            have hS_ : w0.grownBy (W.alloc (.cells #[.int .i64 4] 3)) (some g) := gb_below hS (below_alloc (Below.refl _ _) _)
            have hG_ := blk_alloc hG (.cells #[.int .i64 4] 3)
            have hk1_ : KindsAt g (W.alloc (.cells #[.int .i64 4] 3)) (.slice (some ⟨W.heap.size, 0, none⟩) 1 1) [4] := .inr ⟨by decide, _, rfl, by have := blk_lt hG; omega, kinds_new1 W 4⟩
            refine hK.out _ _ hS_ ?_
            clear hK K' hS hG
            have hS := hS_; have hG := hG_; have hk1 := hk1_
            clear hS_ hG_ hk1_
            generalize hkv_hk1 : (Value.slice (some ⟨W.heap.size, 0, none⟩) 1 1) = kvhk1 at *
            clear hkv_hk1
            generalize (W.alloc (.cells #[.int .i64 4] 3)) = W1 at hS hG hk1 ⊢
            try simp only [List.setIfInBounds_toArray, List.set_cons_zero, List.set_cons_succ]
            refine B_two (i := 6) (j := 13) rfl rfl (by kernel_rfl) (fun K' hK => ?_) (fun K' hK => ?_)
            · go_simp
              refine (HC1.out W1 hS hG hk1).mono ?_
              rintro e W2 ⟨rfl, h2, h3⟩
              have hk1_ := hk1.grown h3
              have hS_ := gb_trans hS h3 (.inl rfl)
              refine hK.out _ _ hS_ ?_
              clear hK K' hS hG h3 hk1
              have hS := hS_; have hG := h2; have hk1 := hk1_
              clear hS_ h2 hk1_
              try simp only [List.setIfInBounds_toArray, List.set_cons_zero, List.set_cons_succ]
              refine B_takeD 17 74 (i := 7) (v := .string (r1.1 ++ ⟨#[32, 97, 110, 100, 32]⟩)) rfl rfl (by kernel_rfl) (fun _ _ _ h => h) (by kernel_rfl) (fun w' hSw => ?_) hS ?_
              · go_simp
              simp only [List.setIfInBounds_toArray, List.set_cons_zero, List.set_cons_succ]
              refine B_one (i := 13) rfl (by kernel_rfl) (fun K' hK => ?_)
              go_simp
              have hS_ : w0.grownBy (W2.alloc (.cells #[.int .i64 4, .int .i64 3] 3)) (some g) := gb_below hS (below_alloc (Below.refl _ _) _)
              have hG_ := blk_alloc hG (.cells #[.int .i64 4, .int .i64 3] 3)
              have hk2_ : KindsAt g (W2.alloc (.cells #[.int .i64 4, .int .i64 3] 3)) (.slice (some ⟨W2.heap.size, 0, none⟩) 2 2) [4, 3] := .inr ⟨by decide, _, rfl, by have := blk_lt hG; omega, kinds_new2 W2 4 3⟩
              have hk1_ := hk1.grown (grown_of_below (below_alloc (Below.refl _ W2) (.cells #[.int .i64 4, .int .i64 3] 3)) (some g))
              refine hK.out _ _ hS_ ?_
              clear hK K' hS hG hk1
              have hS := hS_; have hG := hG_; have hk2 := hk2_; have hk1 := hk1_
              clear hS_ hG_ hk2_ hk1_
              generalize hkv_hk2 : (Value.slice (some ⟨W2.heap.size, 0, none⟩) 2 2) = kvhk2 at *
              clear hkv_hk2
              generalize (W2.alloc (.cells #[.int .i64 4, .int .i64 3] 3)) = W3 at hS hG hk2 hk1 ⊢
              try simp only [List.setIfInBounds_toArray, List.set_cons_zero, List.set_cons_succ]
              refine B_one (i := 14) rfl (by kernel_rfl) (fun K' hK => ?_)
              go_simp
              refine (HC2.out W3 hS hG hk2).mono ?_
              rintro e W4 ⟨rfl, h2, h3⟩
              have hS_ := gb_trans hS h3 (.inl rfl)
              refine hK.out _ _ hS_ ?_
              clear hK K' hS hG h3
              have hS := hS_; have hG := h2
              clear hS_ h2
              try simp only [List.setIfInBounds_toArray, List.set_cons_zero, List.set_cons_succ]
              refine B_one (i := 15) rfl (by kernel_rfl) (fun K' hK => ?_)
              go_simp
              refine hK.out _ _ hS ?_
              clear hK K'
              try simp only [List.setIfInBounds_toArray, List.set_cons_zero, List.set_cons_succ]
              refine B_one (i := 16) rfl (by kernel_rfl) (fun K' hK => ?_)
              go_simp
              refine hK.out _ _ hS ?_
              clear hK K'
              try simp only [List.setIfInBounds_toArray, List.set_cons_zero, List.set_cons_succ]
              refine ⟨by kernel_rfl, ?_⟩
              have HPO : Aside0 (WPost g b (heldT p) w (.returned (.string (r1.1 ++ ⟨#[32, 97, 110, 100, 32]⟩ ++ r2.1))) W4) := ⟨by
                refine ⟨by rw [HR.out], ?_, gb_trans (grown_of_below HB.out (some g)) hS (.inl rfl)⟩
                rw [hG, HR.out]
                congr 2
                cases b <;> cases r1.2 <;> cases r2.2 <;> rfl⟩
              clear hS hG hk2 hk1
              go_wp2
              go_ret
              exact HPO.out
            · go_simp
              have hS_ : w0.grownBy (W1.alloc (.cells #[.int .i64 4, .int .i64 3] 3)) (some g) := gb_below hS (below_alloc (Below.refl _ _) _)
              have hG_ := blk_alloc hG (.cells #[.int .i64 4, .int .i64 3] 3)
              have hk2_ : KindsAt g (W1.alloc (.cells #[.int .i64 4, .int .i64 3] 3)) (.slice (some ⟨W1.heap.size, 0, none⟩) 2 2) [4, 3] := .inr ⟨by decide, _, rfl, by have := blk_lt hG; omega, kinds_new2 W1 4 3⟩
              have hk1_ := hk1.grown (grown_of_below (below_alloc (Below.refl _ W1) (.cells #[.int .i64 4, .int .i64 3] 3)) (some g))
              refine hK.out _ _ hS_ ?_
              clear hK K' hS hG hk1
              have hS := hS_; have hG := hG_; have hk2 := hk2_; have hk1 := hk1_
              clear hS_ hG_ hk2_ hk1_
              generalize hkv_hk2 : (Value.slice (some ⟨W1.heap.size, 0, none⟩) 2 2) = kvhk2 at *
              clear hkv_hk2
              generalize (W1.alloc (.cells #[.int .i64 4, .int .i64 3] 3)) = W5 at hS hG hk2 hk1 ⊢
              try simp only [List.setIfInBounds_toArray, List.set_cons_zero, List.set_cons_succ]
              refine B_one (i := 6) rfl (by kernel_rfl) (fun K' hK => ?_)
              go_simp
              refine (HC1.out W5 hS hG hk1).mono ?_
              rintro e W6 ⟨rfl, h2, h3⟩
              have hk1_ := hk1.grown h3
              have hk2_ := hk2.grown h3
              have hS_ := gb_trans hS h3 (.inl rfl)
              refine hK.out _ _ hS_ ?_
              clear hK K' hS hG h3 hk1 hk2
              have hS := hS_; have hG := h2; have hk1 := hk1_; have hk2 := hk2_
              clear hS_ h2 hk1_ hk2_
              try simp only [List.setIfInBounds_toArray, List.set_cons_zero, List.set_cons_succ]
              refine B_takeD 17 74 (i := 7) (v := .string (r1.1 ++ ⟨#[32, 97, 110, 100, 32]⟩)) rfl rfl (by kernel_rfl) (fun _ _ _ h => h) (by kernel_rfl) (fun w' hSw => ?_) hS ?_
              · go_simp
              simp only [List.setIfInBounds_toArray, List.set_cons_zero, List.set_cons_succ]
              refine B_one (i := 14) rfl (by kernel_rfl) (fun K' hK => ?_)
              go_simp
              refine (HC2.out W6 hS hG hk2).mono ?_
              rintro e W7 ⟨rfl, h2, h3⟩
              have hS_ := gb_trans hS h3 (.inl rfl)
              refine hK.out _ _ hS_ ?_
              clear hK K' hS hG h3
              have hS := hS_; have hG := h2
              clear hS_ h2
              try simp only [List.setIfInBounds_toArray, List.set_cons_zero, List.set_cons_succ]
              refine B_one (i := 15) rfl (by kernel_rfl) (fun K' hK => ?_)
              go_simp
              refine hK.out _ _ hS ?_
              clear hK K'
              try simp only [List.setIfInBounds_toArray, List.set_cons_zero, List.set_cons_succ]
              refine B_one (i := 16) rfl (by kernel_rfl) (fun K' hK => ?_)
              go_simp
              refine hK.out _ _ hS ?_
              clear hK K'
              try simp only [List.setIfInBounds_toArray, List.set_cons_zero, List.set_cons_succ]
              refine ⟨by kernel_rfl, ?_⟩
              have HPO : Aside0 (WPost g b (heldT p) w (.returned (.string (r1.1 ++ ⟨#[32, 97, 110, 100, 32]⟩ ++ r2.1))) W7) := ⟨by
                refine ⟨by rw [HR.out], ?_, gb_trans (grown_of_below HB.out (some g)) hS (.inl rfl)⟩
                rw [hG, HR.out]
                congr 2
                cases b <;> cases r1.2 <;> cases r2.2 <;> rfl⟩
              clear hS hG hk2 hk1
              go_wp2
              go_ret
              exact HPO.out
          · go_simp
            have hS_ : w0.grownBy (W.alloc (.cells #[.int .i64 4, .int .i64 3] 3)) (some g) := gb_below hS (below_alloc (Below.refl _ _) _)
            have hG_ := blk_alloc hG (.cells #[.int .i64 4, .int .i64 3] 3)
            have hk2_ : KindsAt g (W.alloc (.cells #[.int .i64 4, .int .i64 3] 3)) (.slice (some ⟨W.heap.size, 0, none⟩) 2 2) [4, 3] := .inr ⟨by decide, _, rfl, by have := blk_lt hG; omega, kinds_new2 W 4 3⟩
            refine hK.out _ _ hS_ ?_
            clear hK K' hS hG
            have hS := hS_; have hG := hG_; have hk2 := hk2_
            clear hS_ hG_ hk2_
            generalize hkv_hk2 : (Value.slice (some ⟨W.heap.size, 0, none⟩) 2 2) = kvhk2 at *
            clear hkv_hk2
            generalize (W.alloc (.cells #[.int .i64 4, .int .i64 3] 3)) = W8 at hS hG hk2 ⊢
            try simp only [List.setIfInBounds_toArray, List.set_cons_zero, List.set_cons_succ]
            refine B_one (i := 5) rfl (by kernel_rfl) (fun K' hK => ?_)
            go_simp
            have hS_ : w0.grownBy (W8.alloc (.cells #[.int .i64 4] 3)) (some g) := gb_below hS (below_alloc (Below.refl _ _) _)
            have hG_ := blk_alloc hG (.cells #[.int .i64 4] 3)
            have hk1_ : KindsAt g (W8.alloc (.cells #[.int .i64 4] 3)) (.slice (some ⟨W8.heap.size, 0, none⟩) 1 1) [4] := .inr ⟨by decide, _, rfl, by have := blk_lt hG; omega, kinds_new1 W8 4⟩
            have hk2_ := hk2.grown (grown_of_below (below_alloc (Below.refl _ W8) (.cells #[.int .i64 4] 3)) (some g))
            refine hK.out _ _ hS_ ?_
            clear hK K' hS hG hk2
            have hS := hS_; have hG := hG_; have hk1 := hk1_; have hk2 := hk2_
            clear hS_ hG_ hk1_ hk2_
            generalize hkv_hk1 : (Value.slice (some ⟨W8.heap.size, 0, none⟩) 1 1) = kvhk1 at *
            clear hkv_hk1
            generalize (W8.alloc (.cells #[.int .i64 4] 3)) = W9 at hS hG hk1 hk2 ⊢
            try simp only [List.setIfInBounds_toArray, List.set_cons_zero, List.set_cons_succ]
            refine B_one (i := 6) rfl (by kernel_rfl) (fun K' hK => ?_)
            go_simp
            refine (HC1.out W9 hS hG hk1).mono ?_
            rintro e W10 ⟨rfl, h2, h3⟩
            have hk1_ := hk1.grown h3
            have hk2_ := hk2.grown h3
            have hS_ := gb_trans hS h3 (.inl rfl)
            refine hK.out _ _ hS_ ?_
            clear hK K' hS hG h3 hk1 hk2
            have hS := hS_; have hG := h2; have hk1 := hk1_; have hk2 := hk2_
            clear hS_ h2 hk1_ hk2_
            try simp only [List.setIfInBounds_toArray, List.set_cons_zero, List.set_cons_succ]
            refine B_takeD 17 74 (i := 7) (v := .string (r1.1 ++ ⟨#[32, 97, 110, 100, 32]⟩)) rfl rfl (by kernel_rfl) (fun _ _ _ h => h) (by kernel_rfl) (fun w' hSw => ?_) hS ?_
            · go_simp
            simp only [List.setIfInBounds_toArray, List.set_cons_zero, List.set_cons_succ]
            refine B_one (i := 14) rfl (by kernel_rfl) (fun K' hK => ?_)
            go_simp
            refine (HC2.out W10 hS hG hk2).mono ?_
            rintro e W11 ⟨rfl, h2, h3⟩
            have hS_ := gb_trans hS h3 (.inl rfl)
            refine hK.out _ _ hS_ ?_
            clear hK K' hS hG h3
            have hS := hS_; have hG := h2
            clear hS_ h2
            try simp only [List.setIfInBounds_toArray, List.set_cons_zero, List.set_cons_succ]
            refine B_one (i := 15) rfl (by kernel_rfl) (fun K' hK => ?_)
            go_simp
            refine hK.out _ _ hS ?_
            clear hK K'
            try simp only [List.setIfInBounds_toArray, List.set_cons_zero, List.set_cons_succ]
            refine B_one (i := 16) rfl (by kernel_rfl) (fun K' hK => ?_)
            go_simp
            refine hK.out _ _ hS ?_
            clear hK K'
            try simp only [List.setIfInBounds_toArray, List.set_cons_zero, List.set_cons_succ]
            refine ⟨by kernel_rfl, ?_⟩
            have HPO : Aside0 (WPost g b (heldT p) w (.returned (.string (r1.1 ++ ⟨#[32, 97, 110, 100, 32]⟩ ++ r2.1))) W11) := ⟨by
              refine ⟨by rw [HR.out], ?_, gb_trans (grown_of_below HB.out (some g)) hS (.inl rfl)⟩
              rw [hG, HR.out]
              congr 2
              cases b <;> cases r1.2 <;> cases r2.2 <;> rfl⟩
            clear hS hG hk2 hk1
            go_wp2
            go_ret
            exact HPO.out
        · by_cases hk4 : p.kind = 4
          · obtain ⟨xa, hxa⟩ : ∃ xa, p.args[0]? = some xa := ⟨_, List.getElem?_eq_getElem (by omega)⟩
            obtain ⟨xb, hxb⟩ : ∃ xb, p.args[1]? = some xb := ⟨_, List.getElem?_eq_getElem (by omega)⟩
            have hab : p.args = [xa, xb] := by
              match hq : p.args, hl with
              | [u, v], _ => rw [hq] at hxa hxb; simp at hxa hxb; rw [hxa, hxb]
            obtain ⟨m, ad, d', ua, va, hnm, he, hok, hpa, haa, x0, x1, x2, x3⟩ := HA.out.getP hxa
            simp only [Value.slice.injEq, true_and] at he
            obtain ⟨rfl, rfl⟩ := he
            obtain ⟨m', ad', d'', ub, vb, hnm', he, hok', hpb, hab2, y0, y1, y2, y3⟩ := HA.out.getP hxb
            simp only [Value.slice.injEq, true_and, and_true, Option.some.injEq] at he
            obtain ⟨rfl, rfl⟩ := he
            obtain rfl : m = m' := by omega
            obtain ⟨A1, c1, rfl, hc3, hc4⟩ := hpa.slice
            obtain ⟨B1, d1, rfl, hd3, hd4⟩ := haa.slice
            obtain ⟨A2, c2, rfl, hc5, hc6⟩ := hpb.slice
            obtain ⟨B2, d2, rfl, hd5, hd6⟩ := hab2.slice
            have a0 : ∀ d : Addr, d.add (0 * 4) = d := fun d => by simp [Addr.add]
            have a4 : ∀ d : Addr, d.add (1 * 4) = ⟨d.block, d.off + 4, none⟩ := fun d => by simp [Addr.add]
            simp only [a0, a4] at x0 x1 x2 x3 y0 y1 y2 y3
            have z3' : w0.cell? ⟨w.heap.size, 3, none⟩ = some (.slice (some ad) 2 d) := by rw [z3, hl]
            have hgne : w.heap.size ≠ g := by have := blk_lt HW.out.blk; omega
            have adg : ad.block ≠ g := HW.out.off _ hok
            have KEY : Aside0 (∀ w', w0.grownBy w' (some g) → w'.cell? ⟨w.heap.size, 3, none⟩ = some (.slice (some ad) 2 d) ∧ w'.cell? ad = some (.int .i64 xa.kind) ∧ w'.cell? ⟨ad.block, ad.off + 1, none⟩ = some (.int .i64 xa.n) ∧ w'.cell? ⟨ad.block, ad.off + 2, none⟩ = some (.slice A1 xa.path.length c1) ∧ w'.cell? ⟨ad.block, ad.off + 3, none⟩ = some (.slice B1 xa.args.length d1) ∧ w'.cell? ⟨ad.block, ad.off + 4, none⟩ = some (.int .i64 xb.kind) ∧ w'.cell? ⟨ad.block, ad.off + 4 + 1, none⟩ = some (.int .i64 xb.n) ∧ w'.cell? ⟨ad.block, ad.off + 4 + 2, none⟩ = some (.slice A2 xb.path.length c2) ∧ w'.cell? ⟨ad.block, ad.off + 4 + 3, none⟩ = some (.slice B2 xb.args.length d2)) := ⟨fun w' hg => ⟨hg.cell z3' (fun e => by injection e with e; exact hgne e), hg.cell (pw_cell_below HB.out x0) (fun e => by injection e with e; exact adg e), hg.cell (pw_cell_below HB.out x1) (fun e => by injection e with e; exact adg e), hg.cell (pw_cell_below HB.out x2) (fun e => by injection e with e; exact adg e), hg.cell (pw_cell_below HB.out x3) (fun e => by injection e with e; exact adg e), hg.cell (pw_cell_below HB.out y0) (fun e => by injection e with e; exact adg e), hg.cell (pw_cell_below HB.out y1) (fun e => by injection e with e; exact adg e), hg.cell (pw_cell_below HB.out y2) (fun e => by injection e with e; exact adg e), hg.cell (pw_cell_below HB.out y3) (fun e => by injection e with e; exact adg e)⟩⟩
            obtain ⟨r1, hr1⟩ : ∃ r1, r1 = aroundT [] xa := ⟨_, rfl⟩
            obtain ⟨r2, hr2⟩ : ∃ r2, r2 = aroundT [4] xb := ⟨_, rfl⟩
            have HR : Aside0 (heldT p = (r1.1 ++ ⟨#[32, 111, 114, 32]⟩ ++ r2.1, r1.2 && r2.2)) := ⟨by rw [HE.out, if_neg (by simp [hn]), if_neg (by simp [hk4]), if_neg (by simp [hk4]), if_neg (by simp [hk4]), if_pos ⟨hk4, hl, hpl⟩, hab, hr1, hr2]⟩
            have hsz := HZ.out
            rw [HR.out] at hsz
            simp only [ByteArray.size_append] at hsz
            unfold szMax at hsz
            have hj : (⟨#[32, 111, 114, 32]⟩ : ByteArray).size = 4 := rfl
            rw [hj] at hsz
            have hz1 : ¬ 9223372036854775807 < r1.1.size + 4 := by omega
            have hz2 : ¬ 9223372036854775807 < r1.1.size + 4 + r2.1.size := by omega
            obtain ⟨_, _, hnps⟩ := (nmP_eq p).1 HNM.out
            have hnms := (nmPs_iff _).1 hnps
            have hAR := wAround_any m (HIH.out m (by omega))
            have HC1 : Aside0 (∀ (W : World) (hS : w0.grownBy W (some g)) {bx : Bool} (hG : W.heap[g]? = some (wrO bx)) {kv : Value} (hk : KindsAt g W kv []), Calls Tryz.prog 76 #[.pointer (some ⟨g, 0, none⟩), .agg #[.int .i64 xa.kind, .int .i64 xa.n, .slice A1 xa.path.length c1, .slice B1 xa.args.length d1], kv] W (WPost g bx r1 W)) := ⟨fun W hS bx hG kv hk => by
              have hgr := gb_trans (grown_of_below HB.out (some g)) hS (.inl rfl)
              rw [hr1]
              exact hAR _ g bx W A1 B1 c1 d1 xa kv _ (stepsAt_grown hpa HW.out.off hgr) (predsAt_grown haa HW.out.off hgr) ((HW.out.next hG hgr).weak (fun k hk => hk.1)) (hnms xa (List.mem_of_getElem? hxa)) (by rw [← hr1]; unfold szMax; omega) hk⟩
            have HC2 : Aside0 (∀ (W : World) (hS : w0.grownBy W (some g)) {bx : Bool} (hG : W.heap[g]? = some (wrO bx)) {kv : Value} (hk : KindsAt g W kv [4]), Calls Tryz.prog 76 #[.pointer (some ⟨g, 0, none⟩), .agg #[.int .i64 xb.kind, .int .i64 xb.n, .slice A2 xb.path.length c2, .slice B2 xb.args.length d2], kv] W (WPost g bx r2 W)) := ⟨fun W hS bx hG kv hk => by
              have hgr := gb_trans (grown_of_below HB.out (some g)) hS (.inl rfl)
              rw [hr2]
              exact hAR _ g bx W A2 B2 c2 d2 xb kv _ (stepsAt_grown hpb HW.out.off hgr) (predsAt_grown hab2 HW.out.off hgr) ((HW.out.next hG hgr).weak (fun k hk => hk.1)) (hnms xb (List.mem_of_getElem? hxb)) (by rw [← hr2]; unfold szMax; omega) hk⟩
            have HK0 : Aside0 (∀ W, KindsAt g W (.slice none 0 0) []) := ⟨fun W => .inl ⟨rfl, rfl⟩⟩
            have HG0 := Aside0.mk (blk_below HW.out.blk HB.out)
            have hw0' : w.alloc (.cells #[.int .i64 4, .int .i64 0, .slice A 0 c, .slice (some ad) 2 d] 41) = w0 := by rw [← hw0, hk4, hn, hpl, hl]
            have hlp : (p.path.length : Int) = 0 := by omega
            have hla : (p.args.length : Int) = 2 := by omega
            clear hnps hnms hAR hr1 hr2 hsz hj hxa hxb hab HA HP HFAIL HIH HIHP x0 x1 x2 x3 y0 y1 y2 y3 hpa haa hpb hab2 a0 a4 HE HZ HNM hok hok' z3'
            rw [hk4] at z0
            go_enter Tryz.func65, Tryz.ntmps65
            go_upto_region 11 with fail
            refine B_region (fun w' => w0.grownBy w' (some g)) 16 (by kernel_rfl) (gb_drew (gb_refl _ _)) (fun hS => ?_)
            have hG : w0.drew.heap[g]? = some (wrO b) := HG0.out
            generalize w0.drew = W at hS hG ⊢
            refine B_takeD 16 90 (i := 0) (v := .pointer (some ⟨g, 0, none⟩)) rfl rfl (by kernel_rfl) (fun _ _ _ h => h) (by kernel_rfl) (fun w' hSw => ?_) hS ?_
            · obtain ⟨c0, c1, c2, c3, c4, c5, c6, c7, c8⟩ := KEY.out w' hSw; go_simp
            simp only [List.setIfInBounds_toArray, List.set_cons_zero, List.set_cons_succ]
            refine B_takeD 16 91 (i := 1) (v := .pointer (some ⟨w.heap.size, 3, none⟩)) rfl rfl (by kernel_rfl) (fun _ _ _ h => h) (by kernel_rfl) (fun w' hSw => ?_) hS ?_
            · obtain ⟨c0, c1, c2, c3, c4, c5, c6, c7, c8⟩ := KEY.out w' hSw; go_simp
            simp only [List.setIfInBounds_toArray, List.set_cons_zero, List.set_cons_succ]
            refine B_takeD 16 92 (i := 2) (v := .slice (some ad) 2 d) rfl rfl (by kernel_rfl) (fun _ _ _ h => h) (by kernel_rfl) (fun w' hSw => ?_) hS ?_
            · obtain ⟨c0, c1, c2, c3, c4, c5, c6, c7, c8⟩ := KEY.out w' hSw; go_simp
            simp only [List.setIfInBounds_toArray, List.set_cons_zero, List.set_cons_succ]
            refine B_takeD 16 93 (i := 3) (v := .pointer (some ad)) rfl rfl (by kernel_rfl) (fun _ _ _ h => h) (by kernel_rfl) (fun w' hSw => ?_) hS ?_
            · obtain ⟨c0, c1, c2, c3, c4, c5, c6, c7, c8⟩ := KEY.out w' hSw; go_simp
            simp only [List.setIfInBounds_toArray, List.set_cons_zero, List.set_cons_succ]
            refine B_takeD 16 94 (i := 4) (v := .agg #[.int .i64 xa.kind, .int .i64 xa.n, .slice A1 xa.path.length c1, .slice B1 xa.args.length d1]) rfl rfl (by kernel_rfl) (fun _ _ _ h => h) (by kernel_rfl) (fun w' hSw => ?_) hS ?_
            · obtain ⟨c0, c1, c2, c3, c4, c5, c6, c7, c8⟩ := KEY.out w' hSw; go_simp
            simp only [List.setIfInBounds_toArray, List.set_cons_zero, List.set_cons_succ]
            refine B_takeD 16 97 (i := 7) (v := .pointer (some ⟨g, 0, none⟩)) rfl rfl (by kernel_rfl) (fun _ _ _ h => h) (by kernel_rfl) (fun w' hSw => ?_) hS ?_
            · obtain ⟨c0, c1, c2, c3, c4, c5, c6, c7, c8⟩ := KEY.out w' hSw; go_simp
            simp only [List.setIfInBounds_toArray, List.set_cons_zero, List.set_cons_succ]
            refine B_takeD 16 98 (i := 8) (v := .pointer (some ⟨w.heap.size, 3, none⟩)) rfl rfl (by kernel_rfl) (fun _ _ _ h => h) (by kernel_rfl) (fun w' hSw => ?_) hS ?_
            · obtain ⟨c0, c1, c2, c3, c4, c5, c6, c7, c8⟩ := KEY.out w' hSw; go_simp
            simp only [List.setIfInBounds_toArray, List.set_cons_zero, List.set_cons_succ]
            refine B_takeD 16 99 (i := 9) (v := .slice (some ad) 2 d) rfl rfl (by kernel_rfl) (fun _ _ _ h => h) (by kernel_rfl) (fun w' hSw => ?_) hS ?_
            · obtain ⟨c0, c1, c2, c3, c4, c5, c6, c7, c8⟩ := KEY.out w' hSw; go_simp
            simp only [List.setIfInBounds_toArray, List.set_cons_zero, List.set_cons_succ]
            refine B_takeD 16 100 (i := 10) (v := .pointer (some (ad.add 4))) rfl rfl (by kernel_rfl) (fun _ _ _ h => h) (by kernel_rfl) (fun w' hSw => ?_) hS ?_
            · obtain ⟨c0, c1, c2, c3, c4, c5, c6, c7, c8⟩ := KEY.out w' hSw; go_simp
            simp only [List.setIfInBounds_toArray, List.set_cons_zero, List.set_cons_succ]
            refine B_takeD 16 101 (i := 11) (v := .agg #[.int .i64 xb.kind, .int .i64 xb.n, .slice A2 xb.path.length c2, .slice B2 xb.args.length d2]) rfl rfl (by kernel_rfl) (fun _ _ _ h => h) (by kernel_rfl) (fun w' hSw => ?_) hS ?_
            · obtain ⟨c0, c1, c2, c3, c4, c5, c6, c7, c8⟩ := KEY.out w' hSw; go_simp
            simp only [List.setIfInBounds_toArray, List.set_cons_zero, List.set_cons_succ]
            refine B_two (i := 5) (j := 12) rfl rfl (by kernel_rfl) (fun K' hK => ?_) (fun K' hK => ?_)
            · go_simp
              refine (HC1.out W hS hG (HK0.out _)).mono ?_
              rintro e W1 ⟨rfl, h2, h3⟩
              have hS_ := gb_trans hS h3 (.inl rfl)
              refine hK.out _ _ hS_ ?_
              clear hK K' hS hG h3
              have hS := hS_; have hG := h2
              clear hS_ h2
              try simp only [List.setIfInBounds_toArray, List.set_cons_zero, List.set_cons_succ]
              refine B_takeD 16 96 (i := 6) (v := .string (r1.1 ++ ⟨#[32, 111, 114, 32]⟩)) rfl rfl (by kernel_rfl) (fun _ _ _ h => h) (by kernel_rfl) (fun w' hSw => ?_) hS ?_
              · go_simp
              simp only [List.setIfInBounds_toArray, List.set_cons_zero, List.set_cons_succ]
              refine B_one (i := 12) rfl (by kernel_rfl) (fun K' hK => ?_)
              go_simp
              have hS_ : w0.grownBy (W1.alloc (.cells #[.int .i64 4] 3)) (some g) := gb_below hS (below_alloc (Below.refl _ _) _)
              have hG_ := blk_alloc hG (.cells #[.int .i64 4] 3)
              have hk2_ : KindsAt g (W1.alloc (.cells #[.int .i64 4] 3)) (.slice (some ⟨W1.heap.size, 0, none⟩) 1 1) [4] := .inr ⟨by decide, _, rfl, by have := blk_lt hG; omega, kinds_new1 W1 4⟩
              refine hK.out _ _ hS_ ?_
              clear hK K' hS hG
              have hS := hS_; have hG := hG_; have hk2 := hk2_
              clear hS_ hG_ hk2_
              generalize hkv_hk2 : (Value.slice (some ⟨W1.heap.size, 0, none⟩) 1 1) = kvhk2 at *
              clear hkv_hk2
              generalize (W1.alloc (.cells #[.int .i64 4] 3)) = W2 at hS hG hk2 ⊢
              try simp only [List.setIfInBounds_toArray, List.set_cons_zero, List.set_cons_succ]
              refine B_one (i := 13) rfl (by kernel_rfl) (fun K' hK => ?_)
              go_simp
              refine (HC2.out W2 hS hG hk2).mono ?_
              rintro e W3 ⟨rfl, h2, h3⟩
              have hS_ := gb_trans hS h3 (.inl rfl)
              refine hK.out _ _ hS_ ?_
              clear hK K' hS hG h3
              have hS := hS_; have hG := h2
              clear hS_ h2
              try simp only [List.setIfInBounds_toArray, List.set_cons_zero, List.set_cons_succ]
              refine B_one (i := 14) rfl (by kernel_rfl) (fun K' hK => ?_)
              go_simp
              refine hK.out _ _ hS ?_
              clear hK K'
              try simp only [List.setIfInBounds_toArray, List.set_cons_zero, List.set_cons_succ]
              refine B_one (i := 15) rfl (by kernel_rfl) (fun K' hK => ?_)
              go_simp
              refine hK.out _ _ hS ?_
              clear hK K'
              try simp only [List.setIfInBounds_toArray, List.set_cons_zero, List.set_cons_succ]
              refine ⟨by kernel_rfl, ?_⟩
              have HPO : Aside0 (WPost g b (heldT p) w (.returned (.string (r1.1 ++ ⟨#[32, 111, 114, 32]⟩ ++ r2.1))) W3) := ⟨by
                refine ⟨by rw [HR.out], ?_, gb_trans (grown_of_below HB.out (some g)) hS (.inl rfl)⟩
                rw [hG, HR.out]
                congr 2
                cases b <;> cases r1.2 <;> cases r2.2 <;> rfl⟩
              clear hS hG hk2
              go_wp2
              go_ret
              exact HPO.out
            · go_simp
              have hS_ : w0.grownBy (W.alloc (.cells #[.int .i64 4] 3)) (some g) := gb_below hS (below_alloc (Below.refl _ _) _)
              have hG_ := blk_alloc hG (.cells #[.int .i64 4] 3)
              have hk2_ : KindsAt g (W.alloc (.cells #[.int .i64 4] 3)) (.slice (some ⟨W.heap.size, 0, none⟩) 1 1) [4] := .inr ⟨by decide, _, rfl, by have := blk_lt hG; omega, kinds_new1 W 4⟩
              refine hK.out _ _ hS_ ?_
              clear hK K' hS hG
              have hS := hS_; have hG := hG_; have hk2 := hk2_
              clear hS_ hG_ hk2_
              generalize hkv_hk2 : (Value.slice (some ⟨W.heap.size, 0, none⟩) 1 1) = kvhk2 at *
              clear hkv_hk2
              generalize (W.alloc (.cells #[.int .i64 4] 3)) = W4 at hS hG hk2 ⊢
              try simp only [List.setIfInBounds_toArray, List.set_cons_zero, List.set_cons_succ]
              refine B_one (i := 5) rfl (by kernel_rfl) (fun K' hK => ?_)
              go_simp
              refine (HC1.out W4 hS hG (HK0.out _)).mono ?_
              rintro e W5 ⟨rfl, h2, h3⟩
              have hk2_ := hk2.grown h3
              have hS_ := gb_trans hS h3 (.inl rfl)
              refine hK.out _ _ hS_ ?_
              clear hK K' hS hG h3 hk2
              have hS := hS_; have hG := h2; have hk2 := hk2_
              clear hS_ h2 hk2_
              try simp only [List.setIfInBounds_toArray, List.set_cons_zero, List.set_cons_succ]
              refine B_takeD 16 96 (i := 6) (v := .string (r1.1 ++ ⟨#[32, 111, 114, 32]⟩)) rfl rfl (by kernel_rfl) (fun _ _ _ h => h) (by kernel_rfl) (fun w' hSw => ?_) hS ?_
              · go_simp
              simp only [List.setIfInBounds_toArray, List.set_cons_zero, List.set_cons_succ]
              refine B_one (i := 13) rfl (by kernel_rfl) (fun K' hK => ?_)
              go_simp
              refine (HC2.out W5 hS hG hk2).mono ?_
              rintro e W6 ⟨rfl, h2, h3⟩
              have hS_ := gb_trans hS h3 (.inl rfl)
              refine hK.out _ _ hS_ ?_
              clear hK K' hS hG h3
              have hS := hS_; have hG := h2
              clear hS_ h2
              try simp only [List.setIfInBounds_toArray, List.set_cons_zero, List.set_cons_succ]
              refine B_one (i := 14) rfl (by kernel_rfl) (fun K' hK => ?_)
              go_simp
              refine hK.out _ _ hS ?_
              clear hK K'
              try simp only [List.setIfInBounds_toArray, List.set_cons_zero, List.set_cons_succ]
              refine B_one (i := 15) rfl (by kernel_rfl) (fun K' hK => ?_)
              go_simp
              refine hK.out _ _ hS ?_
              clear hK K'
              try simp only [List.setIfInBounds_toArray, List.set_cons_zero, List.set_cons_succ]
              refine ⟨by kernel_rfl, ?_⟩
              have HPO : Aside0 (WPost g b (heldT p) w (.returned (.string (r1.1 ++ ⟨#[32, 111, 114, 32]⟩ ++ r2.1))) W6) := ⟨by
                refine ⟨by rw [HR.out], ?_, gb_trans (grown_of_below HB.out (some g)) hS (.inl rfl)⟩
                rw [hG, HR.out]
                congr 2
                cases b <;> cases r1.2 <;> cases r2.2 <;> rfl⟩
              clear hS hG hk2
              go_wp2
              go_ret
              exact HPO.out
          · by_cases hk2 : p.kind = 2
            · have hr : heldT p = (⟨#[]⟩, false) := by rw [HE.out]; simp [hn, hl, hk3, hk4, hk2]
              have hi0 : (p.args.length : Int) = 2 := by omega
              have hi1 : (p.path.length : Int) = 0 := by omega
              rw [hr]
              clear HE HZ
              try simp only [*] at hw0
              go_enter Tryz.func65, Tryz.ntmps65
              go_wp2_with fail
              go_at_call 22
              refine HFAIL.out.mono ?_
              rintro e w1 ⟨rfl, h2, h3⟩
              have HPO := Aside0.mk (WPost.of_alloc HB.out ⟨rfl, h2, h3⟩)
              clear h2 h3 z0 z1 z2 z3
              go_wp2
              go_ret
              exact HPO.out
            by_cases hk5 : p.kind = 5
            · have hr : heldT p = (⟨#[]⟩, false) := by rw [HE.out]; simp [hn, hl, hk3, hk4, hk5]
              have hi0 : (p.args.length : Int) = 2 := by omega
              have hi1 : (p.path.length : Int) = 0 := by omega
              rw [hr]
              clear HE HZ
              try simp only [*] at hw0
              go_enter Tryz.func65, Tryz.ntmps65
              go_wp2_with fail
              go_at_call 22
              refine HFAIL.out.mono ?_
              rintro e w1 ⟨rfl, h2, h3⟩
              have HPO := Aside0.mk (WPost.of_alloc HB.out ⟨rfl, h2, h3⟩)
              clear h2 h3 z0 z1 z2 z3
              go_wp2
              go_ret
              exact HPO.out
            have hr : heldT p = (⟨#[]⟩, false) := by rw [HE.out]; simp [hn, hl, hk3, hk4, hk2, hk5]
            have hi0 : (p.args.length : Int) = 2 := by omega
            have hi1 : (p.path.length : Int) = 0 := by omega
            rw [hr]
            clear HE HZ
            try simp only [*] at hw0
            go_enter Tryz.func65, Tryz.ntmps65
            go_wp2_with fail
            go_at_call 22
            refine HFAIL.out.mono ?_
            rintro e w1 ⟨rfl, h2, h3⟩
            have HPO := Aside0.mk (WPost.of_alloc HB.out ⟨rfl, h2, h3⟩)
            clear h2 h3 z0 z1 z2 z3
            go_wp2
            go_ret
            exact HPO.out
      · by_cases hk2 : p.kind = 2
        · have hr : heldT p = (⟨#[]⟩, false) := by rw [HE.out]; simp [hn, hl, hpl, hk2]
          have hi0 : (p.args.length : Int) = 2 := by omega
          have hi1 : ¬ (p.path.length : Int) = 0 := by omega
          rw [hr]
          clear HE HZ
          try simp only [*] at hw0
          go_enter Tryz.func65, Tryz.ntmps65
          go_wp2_with fail
          go_at_call 22
          refine HFAIL.out.mono ?_
          rintro e w1 ⟨rfl, h2, h3⟩
          have HPO := Aside0.mk (WPost.of_alloc HB.out ⟨rfl, h2, h3⟩)
          clear h2 h3 z0 z1 z2 z3
          go_wp2
          go_ret
          exact HPO.out
        by_cases hk5 : p.kind = 5
        · have hr : heldT p = (⟨#[]⟩, false) := by rw [HE.out]; simp [hn, hl, hpl, hk5]
          have hi0 : (p.args.length : Int) = 2 := by omega
          have hi1 : ¬ (p.path.length : Int) = 0 := by omega
          rw [hr]
          clear HE HZ
          try simp only [*] at hw0
          go_enter Tryz.func65, Tryz.ntmps65
          go_wp2_with fail
          go_at_call 22
          refine HFAIL.out.mono ?_
          rintro e w1 ⟨rfl, h2, h3⟩
          have HPO := Aside0.mk (WPost.of_alloc HB.out ⟨rfl, h2, h3⟩)
          clear h2 h3 z0 z1 z2 z3
          go_wp2
          go_ret
          exact HPO.out
        by_cases hk3 : p.kind = 3
        · have hr : heldT p = (⟨#[]⟩, false) := by rw [HE.out]; simp [hn, hl, hpl, hk3]
          have hi0 : (p.args.length : Int) = 2 := by omega
          have hi1 : ¬ (p.path.length : Int) = 0 := by omega
          rw [hr]
          clear HE HZ
          try simp only [*] at hw0
          go_enter Tryz.func65, Tryz.ntmps65
          go_wp2_with fail
          go_at_call 22
          refine HFAIL.out.mono ?_
          rintro e w1 ⟨rfl, h2, h3⟩
          have HPO := Aside0.mk (WPost.of_alloc HB.out ⟨rfl, h2, h3⟩)
          clear h2 h3 z0 z1 z2 z3
          go_wp2
          go_ret
          exact HPO.out
        by_cases hk4 : p.kind = 4
        · have hr : heldT p = (⟨#[]⟩, false) := by rw [HE.out]; simp [hn, hl, hpl, hk4]
          have hi0 : (p.args.length : Int) = 2 := by omega
          have hi1 : ¬ (p.path.length : Int) = 0 := by omega
          rw [hr]
          clear HE HZ
          try simp only [*] at hw0
          go_enter Tryz.func65, Tryz.ntmps65
          go_wp2_with fail
          go_at_call 22
          refine HFAIL.out.mono ?_
          rintro e w1 ⟨rfl, h2, h3⟩
          have HPO := Aside0.mk (WPost.of_alloc HB.out ⟨rfl, h2, h3⟩)
          clear h2 h3 z0 z1 z2 z3
          go_wp2
          go_ret
          exact HPO.out
        have hr : heldT p = (⟨#[]⟩, false) := by rw [HE.out]; simp [hn, hl, hpl, hk2, hk5, hk3, hk4]
        have hi0 : (p.args.length : Int) = 2 := by omega
        have hi1 : ¬ (p.path.length : Int) = 0 := by omega
        rw [hr]
        clear HE HZ
        try simp only [*] at hw0
        go_enter Tryz.func65, Tryz.ntmps65
        go_wp2_with fail
        go_at_call 22
        refine HFAIL.out.mono ?_
        rintro e w1 ⟨rfl, h2, h3⟩
        have HPO := Aside0.mk (WPost.of_alloc HB.out ⟨rfl, h2, h3⟩)
        clear h2 h3 z0 z1 z2 z3
        go_wp2
        go_ret
        exact HPO.out
    · by_cases hk2 : p.kind = 2
      · by_cases hl0 : p.args.length = 0
        · have hr : heldT p = pathT false p.path := by rw [HE.out, if_neg (by simp [hn]), if_pos ⟨hk2, hl0⟩]
          have hz := HZ.out
          rw [hr] at hz ⊢
          have hcall := HIHP.out _ g b false w0 A c p.path (stepsAt_below HP.out HB.out) ((HW.out.below HB.out).weak (fun k hk => hk.1)) ((nmP_eq p).1 HNM.out).2.1 hz
          have hi0 : (p.args.length : Int) = 0 := by omega
          clear HE HZ hz hr HIH HIHP HFAIL
          try simp only [*] at hw0
          go_enter Tryz.func65, Tryz.ntmps65
          go_wp2_with fail
          go_at_call 15
          refine hcall.mono ?_
          rintro e w1 ⟨rfl, h2, h3⟩
          have HPO := Aside0.mk (WPost.of_alloc HB.out ⟨rfl, h2, h3⟩)
          clear hcall h2 h3 z0 z1 z2 z3
          go_wp2
          go_ret
          exact HPO.out
        · have hr : heldT p = (⟨#[]⟩, false) := by rw [HE.out]; simp [hn, hk2, hl0]
          have hi0 : ¬ (p.args.length : Int) = 2 := by omega
          have hi1 : ¬ (p.args.length : Int) = 0 := by omega
          rw [hr]
          clear HE HZ
          try simp only [*] at hw0
          go_enter Tryz.func65, Tryz.ntmps65
          go_wp2_with fail
          go_at_call 22
          refine HFAIL.out.mono ?_
          rintro e w1 ⟨rfl, h2, h3⟩
          have HPO := Aside0.mk (WPost.of_alloc HB.out ⟨rfl, h2, h3⟩)
          clear h2 h3 z0 z1 z2 z3
          go_wp2
          go_ret
          exact HPO.out
      · by_cases hk5 : p.kind = 5
        · by_cases hl1 : p.args.length = 1
          · by_cases hpl : p.path.length = 0
            · obtain ⟨xa, hxa⟩ : ∃ xa, p.args[0]? = some xa := ⟨_, List.getElem?_eq_getElem (by omega)⟩
              have hab : p.args = [xa] := by
                match hq : p.args, hl1 with
                | [u], _ => rw [hq] at hxa; simp at hxa; rw [hxa]
              obtain ⟨m, ad, d', ua, va, hnm, he, hok, hpa, haa, x0, x1, x2, x3⟩ := HA.out.getP hxa
              simp only [Value.slice.injEq, true_and] at he
              obtain ⟨rfl, rfl⟩ := he
              obtain ⟨A1, c1, rfl, hc3, hc4⟩ := hpa.slice
              obtain ⟨B1, d1, rfl, hd3, hd4⟩ := haa.slice
              have a0 : ∀ d : Addr, d.add (0 * 4) = d := fun d => by simp [Addr.add]
              simp only [a0] at x0 x1 x2 x3
              have y0 := pw_cell_below HB.out x0
              have y1 := pw_cell_below HB.out x1
              have y2 := pw_cell_below HB.out x2
              have y3 := pw_cell_below HB.out x3
              obtain ⟨r, hr1⟩ : ∃ r, r = heldT xa := ⟨_, rfl⟩
              have HR : Aside0 (heldT p = (⟨#[110, 111, 116, 40]⟩ ++ r.1 ++ tRp, r.2)) := ⟨by rw [HE.out, if_neg (by simp [hn]), if_neg (by simp [hk5]), if_pos ⟨hk5, hl1, hpl⟩, hab, hr1]⟩
              have hsz := HZ.out
              rw [HR.out] at hsz
              simp only [ByteArray.size_append] at hsz
              unfold szMax at hsz
              have hj : (⟨#[110, 111, 116, 40]⟩ : ByteArray).size = 4 := rfl
              have hj2 : tRp.size = 1 := rfl
              rw [hj, hj2] at hsz
              have hz1 : ¬ 9223372036854775807 < 4 + r.1.size := by omega
              have hz2 : ¬ 9223372036854775807 < 4 + r.1.size + 1 := by omega
              have hcall := HIH.out m (by omega) _ g b w0 A1 B1 c1 d1 xa (stepsAt_below hpa HB.out) (predsAt_below haa HB.out) ((HW.out.below HB.out).weak (fun k hk => hk.1)) ((nmPs_iff _).1 ((nmP_eq p).1 HNM.out).2.2 xa (List.mem_of_getElem? hxa)) (by rw [← hr1]; unfold szMax; omega)
              rw [← hr1] at hcall
              have hi0 : (p.args.length : Int) = 1 := by omega
              have hi1 : (p.path.length : Int) = 0 := by omega
              rw [HR.out]
              clear HE HZ hsz hj hj2 hr1 hab hxa HA HP HFAIL HIH HIHP HNM x0 x1 x2 x3 hpa haa a0 hok
              try simp only [*] at hw0
              go_enter Tryz.func65, Tryz.ntmps65
              go_wp2_with fail
              go_at_call 65
              refine hcall.mono ?_
              rintro e w1 ⟨rfl, h2, h3⟩
              have HP0 := Aside0.mk (WPost.of_alloc HB.out ⟨rfl, h2, h3⟩)
              have HPO : Aside0 (WPost g b (⟨#[110, 111, 116, 40]⟩ ++ r.1 ++ tRp, r.2) w (.returned (.string (⟨#[110, 111, 116, 40]⟩ ++ r.1 ++ ⟨#[41]⟩))) w1) := ⟨⟨rfl, HP0.out.2.1, HP0.out.2.2⟩⟩
              clear hcall h2 h3 HP0 z0 z1 z2 z3 y0 y1 y2 y3
              go_wp2
              go_ret
              exact HPO.out
            · have hr : heldT p = (⟨#[]⟩, false) := by rw [HE.out]; simp [hn, hk5, hl1, hpl]
              have hi0 : (p.args.length : Int) = 1 := by omega
              have hi1 : ¬ (p.path.length : Int) = 0 := by omega
              rw [hr]
              clear HE HZ
              try simp only [*] at hw0
              go_enter Tryz.func65, Tryz.ntmps65
              go_wp2_with fail
              go_at_call 22
              refine HFAIL.out.mono ?_
              rintro e w1 ⟨rfl, h2, h3⟩
              have HPO := Aside0.mk (WPost.of_alloc HB.out ⟨rfl, h2, h3⟩)
              clear h2 h3 z0 z1 z2 z3
              go_wp2
              go_ret
              exact HPO.out
          · have hr : heldT p = (⟨#[]⟩, false) := by rw [HE.out]; simp [hn, hk5, hl1]
            have hi0 : ¬ (p.args.length : Int) = 2 := by omega
            have hi1 : ¬ (p.args.length : Int) = 1 := by omega
            rw [hr]
            clear HE HZ
            try simp only [*] at hw0
            go_enter Tryz.func65, Tryz.ntmps65
            go_wp2_with fail
            go_at_call 22
            refine HFAIL.out.mono ?_
            rintro e w1 ⟨rfl, h2, h3⟩
            have HPO := Aside0.mk (WPost.of_alloc HB.out ⟨rfl, h2, h3⟩)
            clear h2 h3 z0 z1 z2 z3
            go_wp2
            go_ret
            exact HPO.out
        · by_cases hk3 : p.kind = 3
          · have hr : heldT p = (⟨#[]⟩, false) := by rw [HE.out]; simp [hn, hl, hk2, hk5, hk3]
            have hi0 : ¬ (p.args.length : Int) = 2 := by omega
            rw [hr]
            clear HE HZ
            try simp only [*] at hw0
            go_enter Tryz.func65, Tryz.ntmps65
            go_wp2_with fail
            go_at_call 22
            refine HFAIL.out.mono ?_
            rintro e w1 ⟨rfl, h2, h3⟩
            have HPO := Aside0.mk (WPost.of_alloc HB.out ⟨rfl, h2, h3⟩)
            clear h2 h3 z0 z1 z2 z3
            go_wp2
            go_ret
            exact HPO.out
          by_cases hk4 : p.kind = 4
          · have hr : heldT p = (⟨#[]⟩, false) := by rw [HE.out]; simp [hn, hl, hk2, hk5, hk4]
            have hi0 : ¬ (p.args.length : Int) = 2 := by omega
            rw [hr]
            clear HE HZ
            try simp only [*] at hw0
            go_enter Tryz.func65, Tryz.ntmps65
            go_wp2_with fail
            go_at_call 22
            refine HFAIL.out.mono ?_
            rintro e w1 ⟨rfl, h2, h3⟩
            have HPO := Aside0.mk (WPost.of_alloc HB.out ⟨rfl, h2, h3⟩)
            clear h2 h3 z0 z1 z2 z3
            go_wp2
            go_ret
            exact HPO.out
          have hr : heldT p = (⟨#[]⟩, false) := by rw [HE.out]; simp [hn, hl, hk2, hk5, hk3, hk4]
          have hi0 : ¬ (p.args.length : Int) = 2 := by omega
          rw [hr]
          clear HE HZ
          try simp only [*] at hw0
          go_enter Tryz.func65, Tryz.ntmps65
          go_wp2_with fail
          go_at_call 22
          refine HFAIL.out.mono ?_
          rintro e w1 ⟨rfl, h2, h3⟩
          have HPO := Aside0.mk (WPost.of_alloc HB.out ⟨rfl, h2, h3⟩)
          clear h2 h3 z0 z1 z2 z3
          go_wp2
          go_ret
          exact HPO.out
  · by_cases hl : p.args.length = 2
    · by_cases hpl : p.path.length = 0
      · have hr : heldT p = (⟨#[]⟩, false) := by rw [HE.out]; simp [hn]
        have hi0 : (p.args.length : Int) = 2 := by omega
        have hi1 : (p.path.length : Int) = 0 := by omega
        rw [hr]
        clear HE HZ
        try simp only [*] at hw0
        go_enter Tryz.func65, Tryz.ntmps65
        go_wp2_with fail
        go_at_call 22
        refine HFAIL.out.mono ?_
        rintro e w1 ⟨rfl, h2, h3⟩
        have HPO := Aside0.mk (WPost.of_alloc HB.out ⟨rfl, h2, h3⟩)
        clear h2 h3 z0 z1 z2 z3
        go_wp2
        go_ret
        exact HPO.out
      · have hr : heldT p = (⟨#[]⟩, false) := by rw [HE.out]; simp [hn]
        have hi0 : (p.args.length : Int) = 2 := by omega
        have hi1 : ¬ (p.path.length : Int) = 0 := by omega
        rw [hr]
        clear HE HZ
        try simp only [*] at hw0
        go_enter Tryz.func65, Tryz.ntmps65
        go_wp2_with fail
        go_at_call 22
        refine HFAIL.out.mono ?_
        rintro e w1 ⟨rfl, h2, h3⟩
        have HPO := Aside0.mk (WPost.of_alloc HB.out ⟨rfl, h2, h3⟩)
        clear h2 h3 z0 z1 z2 z3
        go_wp2
        go_ret
        exact HPO.out
    · have hr : heldT p = (⟨#[]⟩, false) := by rw [HE.out]; simp [hn]
      have hi0 : ¬ (p.args.length : Int) = 2 := by omega
      rw [hr]
      clear HE HZ
      try simp only [*] at hw0
      go_enter Tryz.func65, Tryz.ntmps65
      go_wp2_with fail
      go_at_call 22
      refine HFAIL.out.mono ?_
      rintro e w1 ⟨rfl, h2, h3⟩
      have HPO := Aside0.mk (WPost.of_alloc HB.out ⟨rfl, h2, h3⟩)
      clear h2 h3 z0 z1 z2 z3
      go_wp2
      go_ret
      exact HPO.out
end Go.Proofs.YtoanmoddppmffaaGreatDoor.T
