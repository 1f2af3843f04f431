/- The writer: steps. -/
import Derived.Test.YtoanmoddppmffaaGreatDoorXFe
import Derived.Test.YtoanmoddppmffaaGreatDoorXFb
namespace Go.Proofs.YtoanmoddppmffaaGreatDoor.T
open Go.RowKit Go.Shelf Go.Proofs.YtoanmoddppmffaaGreatDoorW.PrintWords
set_option linter.unusedVariables false
set_option linter.unusedSimpArgs false
theorem cells_app (s t : ByteArray) : Lib.strCells (s ++ t) = Lib.strCells s ++ Lib.strCells t := by simp [Lib.strCells]
theorem bld_keep {B b0 g : Nat} {cs : List Value} {w w' : World} (h : Lib.IsBuilder 58 5 B b0 cs w) (hg : g < B) (hm : w.grownBy w' (some g)) : Lib.IsBuilder 58 5 B b0 cs w' := by
  have key : ∀ p, Lib.BuilderAt 58 5 B b0 p cs w → Lib.BuilderAt 58 5 B b0 p cs w' := by
    rintro p ⟨hB, v, hb, ho, hne⟩
    refine ⟨hB, v, (hm.block b0 (blk_lt hb) (fun e => by injection e with e; omega)).trans hb, own_move ho (fun k hk => hm.block k (own_lt ho k hk) (fun e => by injection e with e; have := own_base ho k hk; omega)), hne⟩
  exact h.imp (key _) (key _)
theorem gb_far {w w1 w2 : World} {row : Option Nat} (h : w.grownBy w1 row) (k : Below w.heap.size w1 w2) : w.grownBy w2 row :=
  ⟨k.os.trans h.os, k.tape.trans h.tape, k.output.trans h.output, Nat.le_trans h.size k.size, fun i hi hn => (k.block i hi).trans (h.block i hi hn)⟩
structure WPathI (l : List Step) (f : Bool) (g : Nat) (b : Bool) (w : World) (i : Nat) (t : ByteArray) (bb : Bool) (wr : World) : Prop where
  le : i ≤ l.length
  txt : t ++ (rowT (f || decide (0 < i)) (l.drop i)).1 = (pathT f l).1
  ok : (bb && (rowT (f || decide (0 < i)) (l.drop i)).2) = (pathT f l).2
  bld : Lib.IsBuilder 58 5 w.heap.size w.heap.size (Lib.strCells t) wr
  blk : wr.heap[g]? = some (wrO (b || !bb))
  gr : w.grownBy wr (some g)
set_option maxHeartbeats 4000000 in
set_option maxRecDepth 100000 in
theorem wPath_any (n : Nat) (IH : ∀ m, m < n → WStepC m) : WPathC n := by
  intro ok g b f w A c l hl hW hnm hz
  obtain ⟨hpl1, hpl2⟩ : l.length ≤ c ∧ c ≤ maxLen := by obtain ⟨A', c', e, h1, h2⟩ := hl.slice; injection e with e1 e2 e3; omega
  have hm : (l.length : Int) ≤ 9223372036854775807 := by unfold maxLen at hpl2; omega
  by_cases h0 : l.length = 0
  · have hr : pathT f l = (⟨#[]⟩, false) := by unfold pathT; rw [if_pos h0]
    rw [hr]
    have hcall := wFails_any g b w hW.blk
    rw [h0]
    clear hl hW hnm hz hr
    go_enter Tryz.func15, Tryz.ntmps15
    go_wp2_with fail
    go_at_call 22
    refine hcall.mono ?_
    rintro e w1 ⟨rfl, h2, h3⟩
    have HP : Aside0 (WPost g b (⟨#[]⟩, false) w (.returned (.string ⟨#[]⟩)) w1) := ⟨⟨rfl, h2, h3⟩⟩
    clear hcall h2 h3
    go_wp2
    go_ret
    exact HP.out
  · have h0' : ¬ (l.length : Int) = 0 := by omega
    have h0b : ((l.length : Int) == 0) = false := by simpa using h0'
    have hr : pathT f l = rowT f l := by unfold pathT; rw [if_neg h0]
    have hbB : Below w.heap.size w (w.alloc (.cells #[.pointer none, .slice none 0 0] 58)) := below_alloc (Below.refl _ _) _
    have hst : WPathI l f g b w 0 ⟨#[]⟩ true (w.alloc (.cells #[.pointer none, .slice none 0 0] 58)) :=
      ⟨by omega, by rw [hr, nil_app]; simp, by rw [hr]; simp, .inl ⟨Nat.le_refl _, _, blk_new _ _, World.ownsRow_nil _ _ _ _, by simp [Value.ownBlock]⟩, by rw [Bool.not_true, Bool.or_false]; exact blk_below hW.blk hbB, grown_of_below hbB _⟩
    have HST := Aside0.mk hst
    have HL := Aside0.mk hl
    have HW := Aside0.mk hW
    have HNM := Aside0.mk hnm
    have HZ := Aside0.mk hz
    have HIH := Aside0.mk IH
    have hgw : g < w.heap.size := blk_lt hW.blk
    clear hst hl hW hnm hz IH hr hbB
    go_enter Tryz.func15, Tryz.ntmps15
    go_wp2
    go_loopg [17] l.length (fun gk iv wr => ∃ i : Nat, iv = .int .i64 i ∧ l.length - i ≤ gk ∧ Aside0 (∃ t bb, WPathI l f g b w i t bb wr))
    case atStart => exact ⟨0, rfl, by omega, ⟨_, _, HST.out⟩⟩
    case round =>
      obtain ⟨i, rfl, hgk, H⟩ := hrel
      have hi0 : (0 : Int) ≤ (i : Int) := by omega
      obtain ⟨t, bb, hI⟩ := H.out
      have hil := hI.le
      have HI := Aside0.mk hI
      clear H HST hI
      by_cases hlt : i < l.length
      · have hlt1 : (i : Int) < (l.length : Int) := by omega
        obtain ⟨x, hxi⟩ : ∃ x, l[i]? = some x := ⟨_, List.getElem?_eq_getElem hlt⟩
        obtain ⟨m, ad, c', u, hn, he, hok, hp, x0, x1, x2, x3⟩ := (stepsAt_grown HL.out HW.out.off HI.out.gr).getS hxi
        simp only [Value.slice.injEq, true_and] at he
        obtain ⟨rfl, rfl⟩ := he
        obtain ⟨A1, c1, rfl, hc3, hc4⟩ := hp.slice
        have HXI := Aside0.mk hxi
        have HP := Aside0.mk hp
        clear hxi hp
        go_upto_block 2 with fail
        have hbA : Below wr.heap.size wr (wr.alloc (.cells #[.bool x.deep, .int .i64 x.axis, .string x.name, .slice A1 x.preds.length c1] 39)) := below_alloc (Below.refl _ _) _
        have hnA : (wr.alloc (.cells #[.bool x.deep, .int .i64 x.axis, .string x.name, .slice A1 x.preds.length c1] 39)).heap[wr.heap.size]? = some (.cells #[.bool x.deep, .int .i64 x.axis, .string x.name, .slice A1 x.preds.length c1] 39 (0, 0)) := blk_new _ _
        have hsA : (wr.alloc (.cells #[.bool x.deep, .int .i64 x.axis, .string x.name, .slice A1 x.preds.length c1] 39)).heap.size = wr.heap.size + 1 := by simp
        generalize wr.alloc (.cells #[.bool x.deep, .int .i64 x.axis, .string x.name, .slice A1 x.preds.length c1] 39) = W at hbA hnA hsA ⊢
        have d0 : W.cell? ⟨wr.heap.size, 0, none⟩ = some (.bool x.deep) := (blk_cell hnA 0).trans rfl
        have hwr : w.heap.size < wr.heap.size := by
          rcases HI.out.bld with h | h <;> exact h.lt
        have hgW := gb_below HI.out.gr hbA
        have hbldW := bld_keep (g := g) HI.out.bld hgw (grown_of_below hbA _)
        have hblkW := blk_below HI.out.blk hbA
        obtain ⟨fi, hfi⟩ : ∃ fi, fi = (f || decide (0 < i)) := ⟨_, rfl⟩
        have hdrop : l.drop i = x :: l.drop (i + 1) := by rw [List.drop_eq_getElem_cons hlt]; congr 1; have := HXI.out; rw [List.getElem?_eq_getElem hlt] at this; exact Option.some.inj this
        have htxt := HI.out.txt
        have hok2 := HI.out.ok
        rw [← hfi, hdrop, rowT_cons] at htxt hok2
        have hsz := HZ.out
        rw [← htxt] at hsz
        simp only [ByteArray.size_append] at hsz
        unfold szMax at hsz
        have hwrite : ∀ (s : ByteArray), s.size ≤ 2 → Calls Tryz.prog 23 #[.pointer (some ⟨w.heap.size, 0, none⟩), .string s] W fun e w' => (∃ r, e = .returned r) ∧ Lib.BuilderAt 58 5 w.heap.size w.heap.size (.pointer (some ⟨w.heap.size, 0, none⟩)) (Lib.strCells t ++ Lib.strCells s) w' ∧ Below w.heap.size W w' ∧ ∀ k xs ty fr, k ≠ w.heap.size → W.heap[k]? = some (.cells xs ty fr) → ty ≠ 5 → w'.heap[k]? = W.heap[k]? :=
          fun s hs => bWrite_any w.heap.size w.heap.size (Lib.strCells t) s W hbldW (by rw [Lib.strCells_length]; omega) (by omega)
        have hfail := wFails_any g (b || !bb) W hblkW
        go_cut [] (fun wx => Aside0 (Lib.IsBuilder 58 5 w.heap.size w.heap.size (Lib.strCells (t ++ sepT fi x.deep)) wx ∧ wx.heap[g]? = some (wrO ((b || !bb) || !(sepOk fi x.deep))) ∧ w.grownBy wx (some g) ∧ wx.heap[wr.heap.size]? = some (.cells #[.bool x.deep, .int .i64 x.axis, .string x.name, .slice A1 x.preds.length c1] 39 (0, 0))))
        case first =>
          have HBW := Aside0.mk hwr
          cases hd : x.deep with
          | true =>
            rw [hd] at d0
            cases f with
            | true =>
              have hs : sepT fi x.deep = ⟨#[47, 47]⟩ := by rw [hfi, hd]; simp [sepT, tDs, tSl]
              have ho : sepOk fi x.deep = true := by rw [hfi, hd]; simp [sepOk]
              have hcall := hwrite ⟨#[47, 47]⟩ (by decide)
              have HK : Aside0 (∀ w2, Lib.BuilderAt 58 5 w.heap.size w.heap.size (.pointer (some ⟨w.heap.size, 0, none⟩)) (Lib.strCells t ++ Lib.strCells ⟨#[47, 47]⟩) w2 → Below w.heap.size W w2 → (∀ k xs ty fr, k ≠ w.heap.size → W.heap[k]? = some (.cells xs ty fr) → ty ≠ 5 → w2.heap[k]? = W.heap[k]?) → Lib.IsBuilder 58 5 w.heap.size w.heap.size (Lib.strCells (t ++ sepT fi x.deep)) w2 ∧ w2.heap[g]? = some (wrO ((b || !bb) || !(sepOk fi x.deep))) ∧ w.grownBy w2 (some g) ∧ w2.heap[wr.heap.size]? = some (.cells #[.bool x.deep, .int .i64 x.axis, .string x.name, .slice A1 x.preds.length c1] 39 (0, 0))) := ⟨fun w2 k1 k2 k3 => ⟨.inr (by rw [hs, cells_app]; exact k1), by rw [ho, Bool.not_true, Bool.or_false]; exact (k2.block g hgw).trans hblkW, gb_far hgW k2, (k3 _ _ _ _ (by have := HBW.out; omega) hnA (by decide)).trans hnA⟩⟩
              clear hwrite hfail hbldW hblkW hgW hnA hbA hsA htxt hok2 hsz hdrop hs ho
              go_wp2_with fail
              go_at_call 23
              refine hcall.mono ?_
              rintro e w2 ⟨⟨r, rfl⟩, k1, k2, k3⟩
              have HC := Aside0.mk (HK.out w2 k1 k2 k3)
              clear hcall k1 k2 k3 HK
              go_wp2
              go_meet
              case rel => exact HC
            | false =>
              by_cases hip : 0 < i
              · have hip' : (0 : Int) < (i : Int) := by omega
                have hs : sepT fi x.deep = ⟨#[47, 47]⟩ := by rw [hfi, hd]; simp [sepT, tDs, tSl, hip]
                have ho : sepOk fi x.deep = true := by rw [hfi, hd]; simp [sepOk, hip]
                have hcall := hwrite ⟨#[47, 47]⟩ (by decide)
                have HK : Aside0 (∀ w2, Lib.BuilderAt 58 5 w.heap.size w.heap.size (.pointer (some ⟨w.heap.size, 0, none⟩)) (Lib.strCells t ++ Lib.strCells ⟨#[47, 47]⟩) w2 → Below w.heap.size W w2 → (∀ k xs ty fr, k ≠ w.heap.size → W.heap[k]? = some (.cells xs ty fr) → ty ≠ 5 → w2.heap[k]? = W.heap[k]?) → Lib.IsBuilder 58 5 w.heap.size w.heap.size (Lib.strCells (t ++ sepT fi x.deep)) w2 ∧ w2.heap[g]? = some (wrO ((b || !bb) || !(sepOk fi x.deep))) ∧ w.grownBy w2 (some g) ∧ w2.heap[wr.heap.size]? = some (.cells #[.bool x.deep, .int .i64 x.axis, .string x.name, .slice A1 x.preds.length c1] 39 (0, 0))) := ⟨fun w2 k1 k2 k3 => ⟨.inr (by rw [hs, cells_app]; exact k1), by rw [ho, Bool.not_true, Bool.or_false]; exact (k2.block g hgw).trans hblkW, gb_far hgW k2, (k3 _ _ _ _ (by have := HBW.out; omega) hnA (by decide)).trans hnA⟩⟩
                clear hwrite hfail hbldW hblkW hgW hnA hbA hsA htxt hok2 hsz hdrop hs ho
                go_wp2_with fail
                go_at_call 23
                refine hcall.mono ?_
                rintro e w2 ⟨⟨r, rfl⟩, k1, k2, k3⟩
                have HC := Aside0.mk (HK.out w2 k1 k2 k3)
                clear hcall k1 k2 k3 HK
                go_wp2
                go_meet
                case rel => exact HC
              · have hip' : ¬ (0 : Int) < (i : Int) := by omega
                have hs : sepT fi x.deep = ⟨#[]⟩ := by rw [hfi, hd]; simp [sepT, hip]
                have ho : sepOk fi x.deep = false := by rw [hfi, hd]; simp [sepOk, hip]
                have HK : Aside0 (∀ w2, w2.heap[g]? = some (wrO ((b || !bb) || !false)) → W.grownBy w2 (some g) → Lib.IsBuilder 58 5 w.heap.size w.heap.size (Lib.strCells (t ++ sepT fi x.deep)) w2 ∧ w2.heap[g]? = some (wrO ((b || !bb) || !(sepOk fi x.deep))) ∧ w.grownBy w2 (some g) ∧ w2.heap[wr.heap.size]? = some (.cells #[.bool x.deep, .int .i64 x.axis, .string x.name, .slice A1 x.preds.length c1] 39 (0, 0))) := ⟨fun w2 k1 k2 => ⟨by rw [hs, app_nil]; exact bld_keep hbldW hgw k2, by rw [ho]; exact k1, gb_trans hgW k2 (.inl rfl), (k2.block _ (blk_lt hnA) (fun e => by injection e with e; have := HBW.out; omega)).trans hnA⟩⟩
                have hcall := hfail
                clear hwrite hfail hbldW hblkW hgW hnA hbA hsA htxt hok2 hsz hdrop hs ho
                go_wp2_with fail
                go_at_call 22
                refine hcall.mono ?_
                rintro e w2 ⟨rfl, k1, k2⟩
                have HC := Aside0.mk (HK.out w2 k1 k2)
                clear hcall k1 k2 HK
                go_wp2
                go_meet
                case rel => exact HC
          | false =>
            rw [hd] at d0
            cases f with
            | true =>
              have hs : sepT fi x.deep = ⟨#[47]⟩ := by rw [hfi, hd]; simp [sepT, tDs, tSl]
              have ho : sepOk fi x.deep = true := by rw [hfi, hd]; simp [sepOk]
              have hcall := hwrite ⟨#[47]⟩ (by decide)
              have HK : Aside0 (∀ w2, Lib.BuilderAt 58 5 w.heap.size w.heap.size (.pointer (some ⟨w.heap.size, 0, none⟩)) (Lib.strCells t ++ Lib.strCells ⟨#[47]⟩) w2 → Below w.heap.size W w2 → (∀ k xs ty fr, k ≠ w.heap.size → W.heap[k]? = some (.cells xs ty fr) → ty ≠ 5 → w2.heap[k]? = W.heap[k]?) → Lib.IsBuilder 58 5 w.heap.size w.heap.size (Lib.strCells (t ++ sepT fi x.deep)) w2 ∧ w2.heap[g]? = some (wrO ((b || !bb) || !(sepOk fi x.deep))) ∧ w.grownBy w2 (some g) ∧ w2.heap[wr.heap.size]? = some (.cells #[.bool x.deep, .int .i64 x.axis, .string x.name, .slice A1 x.preds.length c1] 39 (0, 0))) := ⟨fun w2 k1 k2 k3 => ⟨.inr (by rw [hs, cells_app]; exact k1), by rw [ho, Bool.not_true, Bool.or_false]; exact (k2.block g hgw).trans hblkW, gb_far hgW k2, (k3 _ _ _ _ (by have := HBW.out; omega) hnA (by decide)).trans hnA⟩⟩
              clear hwrite hfail hbldW hblkW hgW hnA hbA hsA htxt hok2 hsz hdrop hs ho
              go_wp2_with fail
              go_at_call 23
              refine hcall.mono ?_
              rintro e w2 ⟨⟨r, rfl⟩, k1, k2, k3⟩
              have HC := Aside0.mk (HK.out w2 k1 k2 k3)
              clear hcall k1 k2 k3 HK
              go_wp2
              go_meet
              case rel => exact HC
            | false =>
              by_cases hip : 0 < i
              · have hip' : (0 : Int) < (i : Int) := by omega
                have hs : sepT fi x.deep = ⟨#[47]⟩ := by rw [hfi, hd]; simp [sepT, tDs, tSl, hip]
                have ho : sepOk fi x.deep = true := by rw [hfi, hd]; simp [sepOk, hip]
                have hcall := hwrite ⟨#[47]⟩ (by decide)
                have HK : Aside0 (∀ w2, Lib.BuilderAt 58 5 w.heap.size w.heap.size (.pointer (some ⟨w.heap.size, 0, none⟩)) (Lib.strCells t ++ Lib.strCells ⟨#[47]⟩) w2 → Below w.heap.size W w2 → (∀ k xs ty fr, k ≠ w.heap.size → W.heap[k]? = some (.cells xs ty fr) → ty ≠ 5 → w2.heap[k]? = W.heap[k]?) → Lib.IsBuilder 58 5 w.heap.size w.heap.size (Lib.strCells (t ++ sepT fi x.deep)) w2 ∧ w2.heap[g]? = some (wrO ((b || !bb) || !(sepOk fi x.deep))) ∧ w.grownBy w2 (some g) ∧ w2.heap[wr.heap.size]? = some (.cells #[.bool x.deep, .int .i64 x.axis, .string x.name, .slice A1 x.preds.length c1] 39 (0, 0))) := ⟨fun w2 k1 k2 k3 => ⟨.inr (by rw [hs, cells_app]; exact k1), by rw [ho, Bool.not_true, Bool.or_false]; exact (k2.block g hgw).trans hblkW, gb_far hgW k2, (k3 _ _ _ _ (by have := HBW.out; omega) hnA (by decide)).trans hnA⟩⟩
                clear hwrite hfail hbldW hblkW hgW hnA hbA hsA htxt hok2 hsz hdrop hs ho
                go_wp2_with fail
                go_at_call 23
                refine hcall.mono ?_
                rintro e w2 ⟨⟨r, rfl⟩, k1, k2, k3⟩
                have HC := Aside0.mk (HK.out w2 k1 k2 k3)
                clear hcall k1 k2 k3 HK
                go_wp2
                go_meet
                case rel => exact HC
              · have hip' : ¬ (0 : Int) < (i : Int) := by omega
                have hs : sepT fi x.deep = ⟨#[]⟩ := by rw [hfi, hd]; simp [sepT, hip]
                have ho : sepOk fi x.deep = true := by rw [hfi, hd]; simp [sepOk]
                have HC : Aside0 (Lib.IsBuilder 58 5 w.heap.size w.heap.size (Lib.strCells (t ++ sepT fi x.deep)) W ∧ W.heap[g]? = some (wrO ((b || !bb) || !(sepOk fi x.deep))) ∧ w.grownBy W (some g) ∧ W.heap[wr.heap.size]? = some (.cells #[.bool x.deep, .int .i64 x.axis, .string x.name, .slice A1 x.preds.length c1] 39 (0, 0))) := ⟨⟨by rw [hs, app_nil]; exact hbldW, by rw [ho, Bool.not_true, Bool.or_false]; exact hblkW, hgW, hnA⟩⟩
                clear hwrite hfail hbldW hblkW hgW hnA hbA hsA htxt hok2 hsz hdrop hs ho
                go_wp2
                go_meet
                case rel => exact HC
        case rest =>
          obtain ⟨q1, q2, q3, q4⟩ := hcut.out
          have HTX := Aside0.mk htxt
          have HOK := Aside0.mk hok2
          have hpc : SlAt (predR (fun k => ok k ∧ k < w.heap.size) wc m) (fun k => ok k ∧ k < w.heap.size) wc (.slice A1 x.preds.length c1) x.preds :=
            HP.out.imp_ (fun k hk => (q3.block k hk.2 (fun e => by injection e with e; exact HW.out.off k hk.1 e)).trans (HI.out.gr.block k hk.2 (fun e => by injection e with e; exact HW.out.off k hk.1 e)).symm) (fun k hk => hk) (fun y cs _ hy => predR_imp (fun k hk => (q3.block k hk.2 (fun e => by injection e with e; exact HW.out.off k hk.1 e)).trans (HI.out.gr.block k hk.2 (fun e => by injection e with e; exact HW.out.off k hk.1 e)).symm) (fun k hk => hk) m m (Nat.le_refl _) y cs hy)
          have hcall := HIH.out m (by omega) _ g ((b || !bb) || !(sepOk fi x.deep)) wc A1 c1 x hpc ((HW.out.next q2 q3).weak (fun k hk => hk.1)) ((nmSs_iff _).1 HNM.out x (List.mem_of_getElem? HXI.out)) (by unfold szMax; omega)
          have s0 : wc.cell? ⟨wr.heap.size, 0, none⟩ = some (.bool x.deep) := (blk_cell q4 0).trans rfl
          have s1 : wc.cell? ⟨wr.heap.size, 1, none⟩ = some (.int .i64 x.axis) := (blk_cell q4 1).trans rfl
          have s2 : wc.cell? ⟨wr.heap.size, 2, none⟩ = some (.string x.name) := (blk_cell q4 2).trans rfl
          have s3 : wc.cell? ⟨wr.heap.size, 3, none⟩ = some (.slice A1 x.preds.length c1) := (blk_cell q4 3).trans rfl
          have HQ1 := Aside0.mk q1
          have HQ3 := Aside0.mk q3
          have HSZ := Aside0.mk hsz
          have HFI := Aside0.mk hfi
          clear htxt hok2 hpc q1 q2 q3 q4 hcut hwrite hfail hbldW hblkW hgW hnA hbA hsA hsz hdrop d0 hfi x0 x1 x2 x3
          go_wp2_with fail
          go_at_call 24
          refine hcall.mono ?_
          rintro e w3 ⟨rfl, k1, k2⟩
          have hb3 := bld_keep HQ1.out hgw k2
          have hg3 := gb_trans HQ3.out k2 (.inl rfl)
          have hcall2 := bWrite_any w.heap.size w.heap.size (Lib.strCells (t ++ sepT fi x.deep)) (stepT x).1 w3 hb3 (by rw [Lib.strCells_length, ByteArray.size_append]; have := HSZ.out; omega) hg3.size
          have HK1 := Aside0.mk k1
          have HG3 := Aside0.mk hg3
          clear hcall k1 k2 hb3 hg3 s0 s1 s2 s3
          go_wp2_with fail
          go_at_call 23
          refine hcall2.mono ?_
          rintro e w4 ⟨⟨r4, rfl⟩, k1, k2, _⟩
          have HNEXT : Aside0 (WPathI l f g b w (i + 1) (t ++ sepT fi x.deep ++ (stepT x).1) (bb && sepOk fi x.deep && (stepT x).2) w4) := ⟨by
            refine ⟨by omega, ?_, ?_, .inr (by rw [cells_app]; exact k1), ?_, gb_far HG3.out k2⟩
            · rw [← HTX.out, show (f || decide (0 < i + 1)) = true by simp]
              simp only [ByteArray.append_assoc]
            · rw [← HOK.out, show (f || decide (0 < i + 1)) = true by simp]
              simp only [Bool.and_assoc]
            · rw [k2.block g hgw, HK1.out]
              congr 2
              cases b <;> cases bb <;> cases sepOk fi x.deep <;> cases (stepT x).2 <;> rfl⟩
          clear hcall2 k1 k2
          go_wp2
          go_roundg (l.length - (i + 1))
          case measure => omega
          case rel => exact ⟨i + 1, by go_num, by omega, ⟨_, _, HNEXT.out⟩⟩
      · obtain rfl : i = l.length := by omega
        have htxt := HI.out.txt
        have hok2 := HI.out.ok
        rw [List.drop_length, rowT_nil] at htxt hok2
        have ht : t = (pathT f l).1 := by rw [← htxt, app_nil]
        have hcall := Tryz.Builder_String_any w.heap.size w.heap.size t.data.toList wr HI.out.bld HI.out.gr.size
        have HT := Aside0.mk ht
        have HOK := Aside0.mk hok2
        clear htxt hok2 ht
        go_wp2_with fail
        go_at_call 25
        refine hcall.mono ?_
        rintro e w2 ⟨rfl, k2⟩
        have HP : Aside0 (WPost g b (pathT f l) w (.returned (.string ⟨t.data.toList.toArray⟩)) w2) := ⟨by
          refine ⟨by rw [← HT.out], ?_, gb_far HI.out.gr k2⟩
          rw [k2.block g hgw, HI.out.blk, ← HOK.out, Bool.and_true]⟩
        clear hcall k2
        go_wp2
        go_ret
        exact HP.out
end Go.Proofs.YtoanmoddppmffaaGreatDoor.T
