/- The reference's Parse. -/
import Derived.Test.YtoanmoddppmffaaGreatDoorXRi
import Derived.Test.YtoanmoddppmffaaGreatDoorXRk
import Derived.Test.YtoanmoddppmffaaGreatDoorXQn
namespace Go.Proofs.YtoanmoddppmffaaGreatDoor.T
open Go.RowKit Go.Shelf Go.Proofs.YtoanmoddppmffaaGreatDoorW.PrintWords
set_option linter.unusedVariables false
set_option linter.unusedSimpArgs false
theorem all_r (l : List Tok) (A : Option Addr) (c : Nat) (hl : l.length ≤ 1000) (hW : TokW l) : ∀ (n j : Nat), j ≤ l.length → l.length - j ≤ n →
    RStepC l A c j ∧ RPathC l A c j ∧ RC 104 (termG false) l A c j ∧ RC 89 (bothG false) l A c j ∧ RC 78 (choiceG false) l A c j ∧ RC 68 (predG false) l A c j := by
  intro n
  induction n with
  | zero =>
    intro j hj hn
    have hs : RStepC l A c j := rStep_any l A c j hl hj hW (pred_enough l) (fun j' h1 h2 => by omega)
    have hp : RPathC l A c j := rPath_any l A c j hl hj (fun j' h1 h2 => by have e : j = j' := (by omega); subst e; exact hs)
    have ht : RC 104 (termG false) l A c j := rTerm_any l A c j hl hj (fun j' h1 h2 => by omega) hp
    have hb : RC 89 (bothG false) l A c j := rBoth_any l A c j hl hj (fun j' h1 h2 => by have e : j = j' := (by omega); subst e; exact ht)
    have hc : RC 78 (choiceG false) l A c j := rChoice_any l A c j hl hj (fun j' h1 h2 => by have e : j = j' := (by omega); subst e; exact hb)
    exact ⟨hs, hp, ht, hb, hc, rPred_any l A c j hl hW hc⟩
  | succ n ih =>
    intro j hj hn
    have IH : ∀ j', j < j' → j' ≤ l.length → _ := fun j' h1 h2 => ih j' h2 (by omega)
    have hs : RStepC l A c j := rStep_any l A c j hl hj hW (pred_enough l) (fun j' h1 h2 => (IH j' h1 h2).2.2.2.2.2)
    have hp : RPathC l A c j := rPath_any l A c j hl hj (fun j' h1 h2 => by
      rcases Nat.eq_or_lt_of_le h1 with rfl | h
      · exact hs
      · exact (IH j' h h2).1)
    have ht : RC 104 (termG false) l A c j := rTerm_any l A c j hl hj (fun j' h1 h2 => (IH j' h1 h2).2.2.2.2.1) hp
    have hb : RC 89 (bothG false) l A c j := rBoth_any l A c j hl hj (fun j' h1 h2 => by
      rcases Nat.eq_or_lt_of_le h1 with rfl | h
      · exact ht
      · exact (IH j' h h2).2.2.1)
    have hc : RC 78 (choiceG false) l A c j := rChoice_any l A c j hl hj (fun j' h1 h2 => by
      rcases Nat.eq_or_lt_of_le h1 with rfl | h
      · exact hb
      · exact (IH j' h h2).2.2.2.1)
    exact ⟨hs, hp, ht, hb, hc, rPred_any l A c j hl hW hc⟩
theorem lexQ_size : ∀ (n : Nat) (l : List UInt8), l.length ≤ n → ∀ t ∈ (lexQ l).1, t.size ≤ l.length := by
  intro n
  induction n with
  | zero =>
    intro l hl t ht
    obtain rfl : l = [] := List.eq_nil_of_length_eq_zero (by omega)
    simp [lexQ, lexL] at ht
  | succ n ih =>
    intro l hl t ht
    rw [lexQ_eq] at ht
    split at ht
    · simp at ht
    · cases hk : tokL (l.drop (skipL l)) with
      | none => rw [hk] at ht; simp at ht
      | some t0 =>
        rw [hk] at ht
        obtain ⟨h3, h4, _⟩ := tokL_size hk
        simp only [List.length_drop] at h4
        simp only [List.mem_cons] at ht
        rcases ht with rfl | ht
        · omega
        · have := ih ((l.drop (skipL l)).drop t0.size) (by simp only [List.length_drop]; omega) t ht
          simp only [List.length_drop] at this
          omega
theorem lexQ_tokW (q : ByteArray) (hq : q.size ≤ 1000) : TokW (lexQ q.data.toList).1 := fun t ht => by
  have h3 : q.data.toList.length = q.size := by rw [Array.length_toList]; rfl
  have h1 := lexQ_dg _ q.data.toList (Nat.le_refl _) t ht
  have h2 := lexQ_size _ q.data.toList (Nat.le_refl _) t ht
  exact ⟨h1.1, h1.2, by omega⟩
set_option maxHeartbeats 4000000 in
set_option maxRecDepth 100000 in
theorem refParse_any (q : ByteArray) (k : Nat) (r : Option (List Step)) (w : World) (hr : parseG k q = some r) (hz : q.size ≤ 1000000) :
    Calls Tryz.prog 18 #[.string q] w (ParsePost r w) := by
  by_cases hl : q.size > 300
  · unfold parseG at hr
    rw [if_pos hl] at hr
    obtain rfl := Option.some.inj hr
    have hb : (300 : Int) < (q.size : Int) := by omega
    clear hr
    go_enter Tryz.func18, Tryz.ntmps18
    go_wp2
    go_ret2
    exact ⟨Below.refl _ _, rfl⟩
  have hb : ¬ (300 : Int) < (q.size : Int) := by omega
  have hsig := signs_any q w (by omega)
  have hbad := fun h => parse_bad hr h
  unfold parseG at hr
  rw [if_neg hl] at hr
  have hW := lexQ_tokW q (by omega)
  have hlen : (lexQ q.data.toList).1.length ≤ 1000 := by
    have h2 := lexQ_len _ q.data.toList (Nat.le_refl _)
    have h3 : q.data.toList.length = q.size := by rw [Array.length_toList]; rfl
    omega
  unfold SigPost at hsig
  generalize (lexQ q.data.toList).1 = T at *
  generalize (lexQ q.data.toList).2 = B at *
  have HR := Aside0.mk hr
  have HBAD := Aside0.mk hbad
  have HW := Aside0.mk hW
  clear hr hbad hW
  go_enter Tryz.func18, Tryz.ntmps18
  go_wp2_with fail
  go_at_call 31
  refine hsig.mono ?_
  rintro e w1 ⟨hb1, ⟨rfl, rfl⟩ | ⟨rfl, A, c, rfl, hcap, hT⟩⟩
  · have hrn := HBAD.out rfl
    subst hrn
    have HB1 := Aside0.mk hb1
    clear hb1 hsig HR
    go_wp2
    go_ret2
    exact ⟨HB1.out, rfl⟩
  · have HB1 := Aside0.mk hb1
    have HT := Aside0.mk hT
    have HCAP := Aside0.mk hcap
    clear hsig HBAD
    have HPATH : ∀ (deep : Bool) (o1 : Option (List Step × List Tok)), 1 ≤ T.length → pathG false k 0 deep (T.drop 1) = some o1 → Calls Tryz.prog 33 #[.slice A T.length c, .int .i64 1, .bool deep, .int .i64 0] w1 (RStepsPost T 1 o1 w1) := fun deep o1 h1 h2 =>
      (all_r T A c hlen HW.out T.length 1 h1 (by omega)).2.1 k 0 deep o1 w1 (by decide) (by decide) HT.out h2
    have HP := Aside0.mk HPATH
    clear HPATH
    by_cases c1 : T[0]? = some tSl
    · obtain ⟨g, rfl, hc0⟩ := hT 0 (tok_lt c1)
      have hlt := tok_lt c1
      have hT0 : T[0] = ⟨#[47]⟩ := by have := c1; rw [List.getElem?_eq_getElem hlt] at this; exact Option.some.inj this
      rw [hT0] at hc0
      have hat := at_lit (c := c) hT c1
      have hat' : Calls Tryz.prog 32 #[.slice (some ⟨g, 0, none⟩) T.length c, .int .i64 0] w1 fun e w' => e = .returned (.string ⟨#[47]⟩) ∧ w1 = w' := hat
      have hlt0 : (0 : Int) < (T.length : Int) := by omega
      have hR := HR.out
      have hdeep : (T.head? == some tDs) = false := by rw [List.head?_eq_getElem?, c1]; decide
      rw [if_pos (by rw [List.head?_eq_getElem?]; exact .inl c1), hdeep] at hR
      have had : adv false T = some (T.drop 1) := by have := adv_drop T 0; rwa [List.drop_zero] at this
      rw [had] at hR
      simp only at hR
      obtain ⟨o1, ho1, hrr⟩ : ∃ o1, pathG false k 0 false (T.drop 1) = some o1 ∧ r = o1.bind fun x => if x.2 = [] then some x.1 else none := by
        cases hg : pathG false k 0 false (T.drop 1) with
        | none => rw [hg] at hR; cases hR
        | some o1 =>
          rw [hg] at hR
          refine ⟨o1, rfl, ?_⟩
          match o1, hR with
          | none, hR => exact (Option.some.inj hR).symm
          | some (l, t2), hR =>
            simp only [Option.bind_some]
            by_cases he : t2 = []
            · simp only [if_pos he] at hR ⊢; exact (Option.some.inj hR).symm
            · simp only [if_neg he] at hR ⊢; exact (Option.some.inj hR).symm
      have hpath := HP.out false o1 (by omega) ho1
      have HRR := Aside0.mk hrr
      clear hat hT hb1 hT0 c1 hR had ho1 hrr hcap hdeep
      go_wp2_with fail
      go_at_call 32
      refine hat'.mono ?_
      rintro e w2 ⟨rfl, rfl⟩
      skip
      go_wp2_with fail
      go_at_call 33
      refine hpath.mono ?_
      rintro e w2 ⟨xs, A1, c1', kk, rfl, hx1, hx2, hx3⟩
      have HX1 := Aside0.mk hx1
      have HX2 := Aside0.mk hx2
      have HB2 : Aside0 (Below w.heap.size w w2) := ⟨below_step HB1.out hx2⟩
      have HZ : Aside0 (w.heap.size ≤ w1.heap.size) := ⟨HB1.out.size⟩
      by_cases hk : kk = (T.length : Int)
      · have HOK : Aside0 (r = some xs) := ⟨by
          rw [HRR.out]
          cases o1 with
          | none => have h : kk = -1 := hx3; omega
          | some q =>
            obtain ⟨y, t2⟩ := q
            obtain ⟨rfl, j', h1, h2, h3, rfl⟩ := hx3
            simp only [Option.bind_some]
            rw [if_pos (List.drop_of_length_le (by omega))]⟩
        clear hx1 hx2 hx3 hpath
        subst hk
        go_wp2
        go_ret2
        refine ⟨HB2.out, ?_⟩
        rw [HOK.out]
        exact ⟨A1, c1', rfl, HX1.out.cap.2, HX1.out.imp_ (fun _ _ => rfl) (fun k' hk => by have := HZ.out; omega)⟩
      · have HNO : Aside0 (r = none) := ⟨by
          rw [HRR.out]
          cases o1 with
          | none => rfl
          | some q =>
            obtain ⟨y, t2⟩ := q
            obtain ⟨rfl, j', h1, h2, h3, rfl⟩ := hx3
            simp only [Option.bind_some]
            rw [if_neg (by intro e; have := congrArg List.length e; rw [List.length_drop] at this; simp at this; omega)]⟩
        clear hx1 hx2 hx3 hpath
        go_wp2
        go_ret2
        refine ⟨HB2.out, ?_⟩
        rw [HNO.out]
        exact rfl
    · by_cases c2 : T[0]? = some tDs
      · obtain ⟨g, rfl, hc0⟩ := hT 0 (tok_lt c2)
        have hlt := tok_lt c2
        have hT0 : T[0] = ⟨#[47, 47]⟩ := by have := c2; rw [List.getElem?_eq_getElem hlt] at this; exact Option.some.inj this
        rw [hT0] at hc0
        have hat := at_lit (c := c) hT c2
        have hat' : Calls Tryz.prog 32 #[.slice (some ⟨g, 0, none⟩) T.length c, .int .i64 0] w1 fun e w' => e = .returned (.string ⟨#[47, 47]⟩) ∧ w1 = w' := hat
        have hlt0 : (0 : Int) < (T.length : Int) := by omega
        have hR := HR.out
        have hdeep : (T.head? == some tDs) = true := by rw [List.head?_eq_getElem?, c2]; decide
        rw [if_pos (by rw [List.head?_eq_getElem?]; exact .inr c2), hdeep] at hR
        have had : adv false T = some (T.drop 1) := by have := adv_drop T 0; rwa [List.drop_zero] at this
        rw [had] at hR
        simp only at hR
        obtain ⟨o1, ho1, hrr⟩ : ∃ o1, pathG false k 0 true (T.drop 1) = some o1 ∧ r = o1.bind fun x => if x.2 = [] then some x.1 else none := by
          cases hg : pathG false k 0 true (T.drop 1) with
          | none => rw [hg] at hR; cases hR
          | some o1 =>
            rw [hg] at hR
            refine ⟨o1, rfl, ?_⟩
            match o1, hR with
            | none, hR => exact (Option.some.inj hR).symm
            | some (l, t2), hR =>
              simp only [Option.bind_some]
              by_cases he : t2 = []
              · simp only [if_pos he] at hR ⊢; exact (Option.some.inj hR).symm
              · simp only [if_neg he] at hR ⊢; exact (Option.some.inj hR).symm
        have hpath := HP.out true o1 (by omega) ho1
        have HRR := Aside0.mk hrr
        clear hat hT hb1 hT0 c2 hR had ho1 hrr hcap hdeep
        go_wp2_with fail
        go_at_call 32
        refine hat'.mono ?_
        rintro e w2 ⟨rfl, rfl⟩
        go_wp2_with fail
        go_at_call 32
        refine hat'.mono ?_
        rintro e w2 ⟨rfl, rfl⟩
        go_wp2_with fail
        go_at_call 33
        refine hpath.mono ?_
        rintro e w2 ⟨xs, A1, c1', kk, rfl, hx1, hx2, hx3⟩
        have HX1 := Aside0.mk hx1
        have HX2 := Aside0.mk hx2
        have HB2 : Aside0 (Below w.heap.size w w2) := ⟨below_step HB1.out hx2⟩
        have HZ : Aside0 (w.heap.size ≤ w1.heap.size) := ⟨HB1.out.size⟩
        by_cases hk : kk = (T.length : Int)
        · have HOK : Aside0 (r = some xs) := ⟨by
            rw [HRR.out]
            cases o1 with
            | none => have h : kk = -1 := hx3; omega
            | some q =>
              obtain ⟨y, t2⟩ := q
              obtain ⟨rfl, j', h1, h2, h3, rfl⟩ := hx3
              simp only [Option.bind_some]
              rw [if_pos (List.drop_of_length_le (by omega))]⟩
          clear hx1 hx2 hx3 hpath
          subst hk
          go_wp2
          go_ret2
          refine ⟨HB2.out, ?_⟩
          rw [HOK.out]
          exact ⟨A1, c1', rfl, HX1.out.cap.2, HX1.out.imp_ (fun _ _ => rfl) (fun k' hk => by have := HZ.out; omega)⟩
        · have HNO : Aside0 (r = none) := ⟨by
            rw [HRR.out]
            cases o1 with
            | none => rfl
            | some q =>
              obtain ⟨y, t2⟩ := q
              obtain ⟨rfl, j', h1, h2, h3, rfl⟩ := hx3
              simp only [Option.bind_some]
              rw [if_neg (by intro e; have := congrArg List.length e; rw [List.length_drop] at this; simp at this; omega)]⟩
          clear hx1 hx2 hx3 hpath
          go_wp2
          go_ret2
          refine ⟨HB2.out, ?_⟩
          rw [HNO.out]
          exact rfl
      · have hrn : r = none := by
          have := HR.out
          rw [List.head?_eq_getElem?, if_neg (fun h => h.elim c1 c2)] at this
          exact (Option.some.inj this).symm
        subst hrn
        have hat := at_any T A c 0 w1 hT
        have hat' : Calls Tryz.prog 32 #[.slice A T.length c, .int .i64 0] w1 _ := hat
        have b1 := ne_beq (bs' := [47]) (atL_ne c1 (by decide))
        have b2 := ne_beq (bs' := [47, 47]) (atL_ne c2 (by decide))
        generalize atL T 0 = s at hat' b1 b2
        clear hat hT hb1 c1 c2 HR HP
        go_wp2_with fail
        go_at_call 32
        refine hat'.mono ?_
        rintro e w2 ⟨rfl, rfl⟩
        go_wp2_with fail
        go_at_call 32
        refine hat'.mono ?_
        rintro e w2 ⟨rfl, rfl⟩
        go_wp2
        go_ret2
        exact ⟨HB1.out, rfl⟩
end Go.Proofs.YtoanmoddppmffaaGreatDoor.T
