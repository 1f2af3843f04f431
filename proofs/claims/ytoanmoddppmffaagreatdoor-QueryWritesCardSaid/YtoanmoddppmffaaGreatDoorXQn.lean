/- Parse: what it answers. -/
import Derived.Test.YtoanmoddppmffaaGreatDoorXQm
namespace Go.Proofs.YtoanmoddppmffaaGreatDoor.T
open Go.RowKit Go.Shelf Go.Proofs.YtoanmoddppmffaaGreatDoorW.PrintWords
set_option linter.unusedVariables false
set_option linter.unusedSimpArgs false
def AllC (b : Bool) (g k : Nat) : Prop := PathC b g k ∧ StepC b g k ∧ PartC 63 (predG b) b g k ∧ PartC 74 (choiceG b) b g k ∧ PartC 84 (bothG b) b g k ∧ PartC 93 (termG b) b g k
theorem all_c (b : Bool) (g : Nat) (hg : 4 < g) (k : Nat) : AllC b g k := by
  have PW := path_w b g
  have TW := term_w b g PW
  have BW := both_w b g hg TW
  induction k using Nat.strongRecOn with
  | _ k ih =>
    refine ⟨path_step b g k hg (fun m hm => (ih m hm).2.1), ?_⟩
    cases k with
    | zero =>
      refine ⟨?_, ?_, ?_, ?_, ?_⟩
      · intro i ts o w _ _ _ _ h; unfold stepG at h; cases h
      · intro i ts o w _ _ _ _ h; unfold predG at h; cases h
      · intro i ts o w _ _ _ _ h; unfold choiceG at h; cases h
      · intro i ts o w _ _ _ _ h; unfold bothG at h; cases h
      · intro i ts o w _ _ _ _ h; unfold termG at h; cases h
    | succ k =>
      have ih' := fun m (hm : m ≤ k) => ih m (Nat.lt_succ_of_le hm)
      exact ⟨step_step b g k hg (fun m hm => (ih' m (Nat.le_of_lt hm)).2.2.1), pred_step b g k hg (ih' k (Nat.le_refl _)).2.2.2.1, choice_step b g k hg (fun m hm => (ih' m hm).2.2.2.2.1) BW,
        both_step b g k hg (fun m hm => (ih' m hm).2.2.2.2.2) TW, term_step b g k hg (ih' k (Nat.le_refl _)).2.2.2.1 (ih' k (Nat.le_refl _)).1⟩
def ParsePost (r : Option (List Step)) (w : World) (e : Ending) (w' : World) : Prop :=
  Below w.heap.size w w' ∧ match r with
    | some l => ∃ A c, e = .returned (.tuple #[.slice A l.length c, .int .i64 0]) ∧ l.length ≤ c ∧ StepsR (fun k => w.heap.size ≤ k) w' (.slice A l.length c) l
    | none => e = .returned (.tuple #[.slice none 0 0, .int .i64 16])
theorem StepsR.cap {ok : Nat → Prop} {w : World} {A : Option Addr} {n c : Nat} {xs : List Step} (h : StepsR ok w (.slice A n c) xs) : n = xs.length ∧ xs.length ≤ c := by
  obtain ⟨_, A', c', e, h, _⟩ := h
  injection e with e1 e2 e3
  exact ⟨e2, by omega⟩
set_option maxHeartbeats 1000000 in
set_option maxRecDepth 100000 in
theorem parse_any (q : ByteArray) (k : Nat) (r : Option (List Step)) (w : World) (hk : k ≤ 100000) (hr : parseG k q = some r) (hV : Vr w) (hw : 4 < w.heap.size) (hz : q.size ≤ 1000000) :
    Calls Tryz.prog 11 #[.string q] w (ParsePost r w) := by
  unfold parseG at hr
  by_cases hl : q.size > 300
  · rw [if_pos hl] at hr
    obtain rfl := Option.some.inj hr
    have hb : decide ((300 : Int) < (q.size : Int)) = true := decide_eq_true (by omega)
    clear hr
    go_enter Tryz.func11, Tryz.ntmps11
    go_wp2
    go_ret2
    exact ⟨Below.refl _ _, rfl⟩
  · rw [if_neg hl] at hr
    have hb : decide ((300 : Int) < (q.size : Int)) = false := decide_eq_false (by omega)
    have hg := hw
    have hnx := next_any q ⟨#[]⟩ 0 w.heap.size (w.alloc (.cells #[.string q, .string ⟨#[]⟩, .int .i64 0, .bool false] 51)) (blk_new _ _) (Nat.zero_le _) (by omega)
    have HR := Aside0.mk hr
    have HV := Aside0.mk hV
    clear hr hV hl
    go_enter Tryz.func11, Tryz.ntmps11
    go_wp2_with fail
    go_at_call 19
    refine hnx.mono ?_
    rintro e w1 ⟨⟨v1, rfl⟩, hg1, hs1⟩
    have e0 : q.data.toList.drop (ByteArray.size ⟨#[]⟩) = q.data.toList := rfl
    rw [e0] at hs1
    have HG1 := Aside0.mk hg1
    have HV1 := Aside0.mk ((HV.out.move (World.grownBy_alloc _ _ none) (fun _ e => by cases e)).move hg1 (fun k' e => by injection e; omega))
    have HR' := Aside0.mk HR.out
    generalize hlex : lexQ q.data.toList = TB at *
    obtain ⟨T, B⟩ := TB
    simp only at HR' hs1
    replace HR := HR'
    clear hg1 hnx HR' e0
    by_cases c1 : T.head? = some tDs
    · obtain ⟨ts, hT⟩ : ∃ ts, T = tDs :: ts := by
        cases T with
        | nil => simp at c1
        | cons a l => simp at c1; exact ⟨l, by rw [c1]⟩
      subst hT
      rw [if_neg (by simp [hlex])] at hs1
      have hs1' : StT B w1 w.heap.size 0 (tDs :: ts) := hs1
      have q1 : w1.cell? ⟨w.heap.size, 1, none⟩ = some (.string ⟨#[47, 47]⟩) := by obtain ⟨l, rest, ho, _⟩ := hs1'.open_; exact (blk_cell ho 1).trans rfl
      have HN := Aside0.mk (next_st B w.heap.size 0 tDs ts w1 hs1')
      clear hs1 hs1' hlex c1
      go_wp2_with fail
      go_at_call 19
      refine HN.out.mono ?_
      rintro e w2 ⟨⟨v2, rfl⟩, hg2, hs2⟩
      have HG2 := Aside0.mk (gb_then HG1.out hg2)
      have hV2 : Vr w2 := HV1.out.move hg2 (fun k' e => by injection e; omega)
      obtain ⟨o2, hpath, hrest⟩ : ∃ o2, Calls Tryz.prog 20 #[.pointer (some ⟨w.heap.size, 0, none⟩), .bool true] w2 (StepsPost B w.heap.size 0 o2 w2) ∧ r = o2.bind fun x => if x.2 = [] then some x.1 else none := by
        have hR := HR.out
        rw [if_pos (by simp [tSl, tDs])] at hR
        cases ha : adv B (tDs :: ts) with
        | none =>
          rw [ha] at hs2 hR
          exact ⟨none, path_w B _ 0 true w2 hs2, (Option.some.inj hR).symm⟩
        | some t1 =>
          rw [ha] at hs2 hR
          have hdeep : (((tDs :: ts : List Tok).head? == some tDs) = true) := show (some tDs == some tDs) = true from by decide
          rw [hdeep] at hR
          have hp := fun o2 h => (all_c B w.heap.size hg k).1 0 true t1 o2 w2 (by omega) (by omega) hV2 hs2 h
          cases hpg : pathG B k 0 true t1 with
          | none => simp only [hpg] at hR; cases hR
          | some o2 =>
            refine ⟨o2, hp o2 hpg, ?_⟩
            simp only [hpg] at hR
            match o2, hR with
            | none, hR => exact (Option.some.inj hR).symm
            | some (l, t2), hR =>
              simp only [Option.bind_some]
              by_cases he : t2 = []
              · simp only [if_pos he] at hR ⊢; exact (Option.some.inj hR).symm
              · simp only [if_neg he] at hR ⊢; exact (Option.some.inj hR).symm
      have HREST := Aside0.mk hrest
      clear hg2 hs2 hV2 hrest
      go_wp2_with fail
      go_at_call 20
      refine hpath.mono ?_
      rintro e w3 ⟨xs, A, c, rfl, hx1, hx2, hx3⟩
      have HX1 := Aside0.mk hx1
      have HG3 := Aside0.mk (gb_then HG2.out hx2)
      have HB3 : Aside0 (Below w.heap.size w w3) := ⟨below_gb (gb_then (World.grownBy_alloc _ _ _) HG3.out) (Nat.le_refl _) (Nat.le_refl _)⟩
      have hzz : w.heap.size ≤ w2.heap.size := by have := HG2.out.size; simp at this; omega
      cases o2 with
      | none =>
        have q3 : w3.cell? ⟨w.heap.size, 3, none⟩ = some (.bool true) := (blk_cell (show w3.heap[w.heap.size]? = some (rdO ⟨#[]⟩ ⟨#[]⟩ 0 true) from hx3) 3).trans rfl
        have hrn : r = none := HREST.out
        subst hrn
        clear hx1 hx2 hx3 hpath
        go_wp2
        go_ret2
        exact ⟨HB3.out, rfl⟩
      | some x =>
        obtain ⟨l, t2⟩ := x
        obtain ⟨rfl, hT3⟩ := hx3
        obtain ⟨l3, s3, ho3, _, hd3⟩ := hT3
        have q3 : w3.cell? ⟨w.heap.size, 3, none⟩ = some (.bool false) := (blk_cell ho3 3).trans rfl
        have q31 : w3.cell? ⟨w.heap.size, 1, none⟩ = some (.string s3) := (blk_cell ho3 1).trans rfl
        by_cases he : t2 = []
        · have hs0 : s3 = ⟨#[]⟩ := by rw [he] at hd3; exact hd3.2
          have hrn : r = some xs := by rw [HREST.out]; simp [he]
          subst hs0
          subst hrn
          clear hx1 hx2 hpath ho3 hd3
          go_wp2
          go_ret2
          exact ⟨HB3.out, A, c, rfl, HX1.out.cap.2, HX1.out.imp_ (fun _ _ => rfl) (fun k' hk => by omega)⟩
        · have hs0 : ¬ s3 = ⟨#[]⟩ := by
            intro e
            cases t2 with
            | nil => exact he rfl
            | cons t t2 => obtain ⟨h1, h2, _⟩ := hd3; rw [← h1, e] at h2; exact absurd h2 (by decide)
          have hrn : r = none := by rw [HREST.out]; simp [he]
          have hb1 := (nonempty_list hs0).1
          have hb2 := (nonempty_list hs0).2
          subst hrn
          clear hx1 hx2 hpath ho3 hd3
          go_wp2
          go_ret2
          exact ⟨HB3.out, rfl⟩
    · by_cases c2 : T.head? = some tSl
      · obtain ⟨ts, hT⟩ : ∃ ts, T = tSl :: ts := by
          cases T with
          | nil => simp at c2
          | cons a l => simp at c2; exact ⟨l, by rw [c2]⟩
        subst hT
        rw [if_neg (by simp [hlex])] at hs1
        have hs1' : StT B w1 w.heap.size 0 (tSl :: ts) := hs1
        have q1 : w1.cell? ⟨w.heap.size, 1, none⟩ = some (.string ⟨#[47]⟩) := by obtain ⟨l, rest, ho, _⟩ := hs1'.open_; exact (blk_cell ho 1).trans rfl
        have HN := Aside0.mk (next_st B w.heap.size 0 tSl ts w1 hs1')
        clear hs1 hs1' hlex c2
        go_wp2_with fail
        go_at_call 19
        refine HN.out.mono ?_
        rintro e w2 ⟨⟨v2, rfl⟩, hg2, hs2⟩
        have HG2 := Aside0.mk (gb_then HG1.out hg2)
        have hV2 : Vr w2 := HV1.out.move hg2 (fun k' e => by injection e; omega)
        obtain ⟨o2, hpath, hrest⟩ : ∃ o2, Calls Tryz.prog 20 #[.pointer (some ⟨w.heap.size, 0, none⟩), .bool false] w2 (StepsPost B w.heap.size 0 o2 w2) ∧ r = o2.bind fun x => if x.2 = [] then some x.1 else none := by
          have hR := HR.out
          rw [if_pos (by simp [tSl, tDs])] at hR
          cases ha : adv B (tSl :: ts) with
          | none =>
            rw [ha] at hs2 hR
            exact ⟨none, path_w B _ 0 false w2 hs2, (Option.some.inj hR).symm⟩
          | some t1 =>
            rw [ha] at hs2 hR
            have hdeep : (((tSl :: ts : List Tok).head? == some tDs) = false) := show (some tSl == some tDs) = false from by decide
            rw [hdeep] at hR
            have hp := fun o2 h => (all_c B w.heap.size hg k).1 0 false t1 o2 w2 (by omega) (by omega) hV2 hs2 h
            cases hpg : pathG B k 0 false t1 with
            | none => simp only [hpg] at hR; cases hR
            | some o2 =>
              refine ⟨o2, hp o2 hpg, ?_⟩
              simp only [hpg] at hR
              match o2, hR with
              | none, hR => exact (Option.some.inj hR).symm
              | some (l, t2), hR =>
                simp only [Option.bind_some]
                by_cases he : t2 = []
                · simp only [if_pos he] at hR ⊢; exact (Option.some.inj hR).symm
                · simp only [if_neg he] at hR ⊢; exact (Option.some.inj hR).symm
        have HREST := Aside0.mk hrest
        clear hg2 hs2 hV2 hrest
        go_wp2_with fail
        go_at_call 20
        refine hpath.mono ?_
        rintro e w3 ⟨xs, A, c, rfl, hx1, hx2, hx3⟩
        have HX1 := Aside0.mk hx1
        have HG3 := Aside0.mk (gb_then HG2.out hx2)
        have HB3 : Aside0 (Below w.heap.size w w3) := ⟨below_gb (gb_then (World.grownBy_alloc _ _ _) HG3.out) (Nat.le_refl _) (Nat.le_refl _)⟩
        have hzz : w.heap.size ≤ w2.heap.size := by have := HG2.out.size; simp at this; omega
        cases o2 with
        | none =>
          have q3 : w3.cell? ⟨w.heap.size, 3, none⟩ = some (.bool true) := (blk_cell (show w3.heap[w.heap.size]? = some (rdO ⟨#[]⟩ ⟨#[]⟩ 0 true) from hx3) 3).trans rfl
          have hrn : r = none := HREST.out
          subst hrn
          clear hx1 hx2 hx3 hpath
          go_wp2
          go_ret2
          exact ⟨HB3.out, rfl⟩
        | some x =>
          obtain ⟨l, t2⟩ := x
          obtain ⟨rfl, hT3⟩ := hx3
          obtain ⟨l3, s3, ho3, _, hd3⟩ := hT3
          have q3 : w3.cell? ⟨w.heap.size, 3, none⟩ = some (.bool false) := (blk_cell ho3 3).trans rfl
          have q31 : w3.cell? ⟨w.heap.size, 1, none⟩ = some (.string s3) := (blk_cell ho3 1).trans rfl
          by_cases he : t2 = []
          · have hs0 : s3 = ⟨#[]⟩ := by rw [he] at hd3; exact hd3.2
            have hrn : r = some xs := by rw [HREST.out]; simp [he]
            subst hs0
            subst hrn
            clear hx1 hx2 hpath ho3 hd3
            go_wp2
            go_ret2
            exact ⟨HB3.out, A, c, rfl, HX1.out.cap.2, HX1.out.imp_ (fun _ _ => rfl) (fun k' hk => by omega)⟩
          · have hs0 : ¬ s3 = ⟨#[]⟩ := by
              intro e
              cases t2 with
              | nil => exact he rfl
              | cons t t2 => obtain ⟨h1, h2, _⟩ := hd3; rw [← h1, e] at h2; exact absurd h2 (by decide)
            have hrn : r = none := by rw [HREST.out]; simp [he]
            have hb1 := (nonempty_list hs0).1
            have hb2 := (nonempty_list hs0).2
            subst hrn
            clear hx1 hx2 hpath ho3 hd3
            go_wp2
            go_ret2
            exact ⟨HB3.out, rfl⟩
      · obtain ⟨l, s, x, ho, hsn⟩ : ∃ l s x, w1.heap[w.heap.size]? = some (rdO l s 0 x) ∧ s ≠ tDs ∧ s ≠ tSl := by
          cases T with
          | nil =>
            cases B with
            | true => rw [if_pos rfl] at hs1; exact ⟨_, _, _, hs1, by decide, by decide⟩
            | false => rw [if_neg (by simp)] at hs1; obtain ⟨l, s, ho, _, hd⟩ := hs1; exact ⟨l, s, _, ho, by rw [hd.2]; decide, by rw [hd.2]; decide⟩
          | cons t ts =>
            rw [if_neg (by simp)] at hs1
            obtain ⟨l, s, ho, _, hd⟩ := hs1
            exact ⟨l, s, _, ho, fun e => c1 (by rw [List.head?_cons, ← hd.1, e]), fun e => c2 (by rw [List.head?_cons, ← hd.1, e])⟩
        have q1 : w1.cell? ⟨w.heap.size, 1, none⟩ = some (.string s) := (blk_cell ho 1).trans rfl
        have b1 : (s.toList == [47, 47]) = false := by rw [beq_eq_false_iff_ne, toList_data]; exact fun e => hsn.1 (bs_ext e)
        have b2 : (s.toList == [47]) = false := by rw [beq_eq_false_iff_ne, toList_data]; exact fun e => hsn.2 (bs_ext e)
        have hrn : r = none := by
          have := HR.out
          rw [if_neg (fun e => e.elim c2 c1)] at this
          exact (Option.some.inj this).symm
        subst hrn
        clear hs1 ho hsn c1 c2 hlex
        go_wp2
        go_ret2
        exact ⟨below_gb (gb_then (World.grownBy_alloc _ _ _) HG1.out) (Nat.le_refl _) (Nat.le_refl _), rfl⟩
end Go.Proofs.YtoanmoddppmffaaGreatDoor.T
