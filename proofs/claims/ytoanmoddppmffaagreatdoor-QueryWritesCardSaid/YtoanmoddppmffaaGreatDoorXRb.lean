/- The reference: the signs of a query. -/
import Derived.Test.YtoanmoddppmffaaGreatDoorXRa
import Derived.Deep.Cut
import Derived.Deep.CutBlock
import Derived.Deep.DeepCutAuto
namespace Go.Proofs.YtoanmoddppmffaaGreatDoor.T
open Go.RowKit Go.Shelf Go.Proofs.YtoanmoddppmffaaGreatDoorW.PrintWords
set_option linter.unusedVariables false
set_option linter.unusedSimpArgs false
theorem skip_drop : ∀ l : List UInt8, skipL (l.drop (skipL l)) = 0
  | [] => rfl
  | c :: l => by
    by_cases h : isSp c = true
    · simp only [skipL, if_pos h, List.drop_succ_cons, skip_drop l]
    · simp only [skipL, if_neg h, List.drop_zero]
theorem lexQ_skip (l : List UInt8) : lexQ (l.drop (skipL l)) = lexQ l := by
  rw [lexQ_eq (l.drop (skipL l)), lexQ_eq l, skip_drop, List.drop_zero]
theorem lexQ_tok {l : List UInt8} {t : Tok} (h0 : skipL l = 0) (hne : l ≠ []) (ht : tokL l = some t) : lexQ l = (t :: (lexQ ((l.drop t.size).drop (skipL (l.drop t.size)))).1, (lexQ ((l.drop t.size).drop (skipL (l.drop t.size)))).2) := by
  rw [lexQ_eq l, h0, List.drop_zero, if_neg hne, ht, lexQ_skip]
theorem lexQ_bad {l : List UInt8} (h0 : skipL l = 0) (hne : l ≠ []) (ht : tokL l = none) : lexQ l = ([], true) := by
  rw [lexQ_eq l, h0, List.drop_zero, if_neg hne, ht]
theorem sig_ds (r : List UInt8) : signL (47 :: 47 :: r) = some tDs := rfl
theorem sig_dd (r : List UInt8) : signL (46 :: 46 :: r) = some tDd := by
  simp [signL, sigs, tDs, tDd, List.find?, List.isPrefixOf]
def ones : List UInt8 := [47, 46, 42, 64, 91, 93, 40, 41]
theorem sig_one {c : UInt8} {l : List UInt8} (h1 : ∀ r, c :: l ≠ 47 :: 47 :: r) (h2 : ∀ r, c :: l ≠ 46 :: 46 :: r) (hc : c ∈ ones) : signL (c :: l) = some (bs [c]) := by
  simp only [ones, List.mem_cons, List.not_mem_nil, or_false] at hc
  rcases hc with rfl | rfl | rfl | rfl | rfl | rfl | rfl | rfl
  · cases l with
    | nil => rfl
    | cons d l =>
      have hd : (47 == d) = false := by rw [beq_eq_false_iff_ne]; rintro rfl; exact h1 l rfl
      simp [signL, sigs, tDs, tDd, tSl, List.find?, List.isPrefixOf, hd, bs]
  · cases l with
    | nil => rfl
    | cons d l =>
      have hd : (46 == d) = false := by rw [beq_eq_false_iff_ne]; rintro rfl; exact h2 l rfl
      simp [signL, sigs, tDs, tDd, tSl, tDot, List.find?, List.isPrefixOf, hd, bs]
  all_goals simp [signL, sigs, tDs, tDd, tSl, tDot, tStar, tAt, tLb, tRb, tLp, tRp, List.find?, List.isPrefixOf, bs]
theorem sig_none {c : UInt8} {l : List UInt8} (hc : c ∉ ones) : signL (c :: l) = none := by
  simp only [ones, List.mem_cons, List.not_mem_nil, or_false, not_or] at hc
  obtain ⟨a1, a2, a3, a4, a5, a6, a7, a8⟩ := hc
  simp [signL, sigs, tDs, tDd, tSl, tDot, tStar, tAt, tLb, tRb, tLp, tRp, List.isPrefixOf, Ne.symm a1, Ne.symm a2, Ne.symm a3, Ne.symm a4, Ne.symm a5, Ne.symm a6, Ne.symm a7, Ne.symm a8]
theorem ones_iff (c : UInt8) : c ∈ ones ↔ (c.toNat : Int) = 47 ∨ (c.toNat : Int) = 46 ∨ (c.toNat : Int) = 42 ∨ (c.toNat : Int) = 64 ∨ (c.toNat : Int) = 91 ∨ (c.toNat : Int) = 93 ∨ (c.toNat : Int) = 40 ∨ (c.toNat : Int) = 41 := by
  simp only [ones, List.mem_cons, List.not_mem_nil, or_false, ← UInt8.toNat_inj]
  have e1 : (47 : UInt8).toNat = 47 := rfl
  have e2 : (46 : UInt8).toNat = 46 := rfl
  have e3 : (42 : UInt8).toNat = 42 := rfl
  have e4 : (64 : UInt8).toNat = 64 := rfl
  have e5 : (91 : UInt8).toNat = 91 := rfl
  have e6 : (93 : UInt8).toNat = 93 := rfl
  have e7 : (40 : UInt8).toNat = 40 := rfl
  have e8 : (41 : UInt8).toNat = 41 := rfl
  omega
theorem tokL_sign {l : List UInt8} (h1 : nameL l = 0) (h2 : digL l = 0) : tokL l = signL l := by
  unfold tokL
  rw [h1, h2, if_neg (by decide)]
theorem strs_more (toks : List Tok) (t : Tok) : pw_strs toks ++ [.string t] = pw_strs (toks ++ [t]) := by simp [pw_strs]
theorem tok_cut {q : ByteArray} {i : Nat} {t : Tok} (h : tokL (q.data.toList.drop i) = some t) : q.extract i (i + t.size) = t := by
  obtain ⟨h1, h2, h3⟩ := tokL_size h
  apply bs_ext
  have e : (q.extract i (i + t.size)).data.toList = (q.data.toList.drop i).take t.size := by
    simp [ByteArray.data_extract, List.extract_eq_take_drop]
  rw [e]
  have hl : t.data.toList.length = t.size := by rw [Array.length_toList]; rfl
  generalize q.data.toList.drop i = l at *
  rw [h3, ← hl, List.take_left]
theorem row_tokR {w : World} {base : Nat} {A : Option Addr} {c : Nat} {toks : List Tok} (h : w.ownsRow base 9 1 (.slice A toks.length c) toks.length (pw_strs toks)) : TokR w A toks := fun k hk => by
  obtain ⟨g, cap, he, _⟩ := h.form (by omega)
  injection he with he1
  subst he1
  have h2 := h.cells (g := g) rfl k (.string toks[k]) (by simp [pw_strs, hk])
  rw [add_plain] at h2
  exact ⟨g, rfl, by simpa using h2⟩
def SigI (q : ByteArray) (w : World) (gk : Nat) (ov iv : Value) (wr : World) : Prop :=
  ∃ (i : Nat) (toks : List Tok), iv = .int .i64 i ∧ i ≤ q.size ∧ q.size - i ≤ gk ∧ wr.ownsRow w.heap.size 9 1 ov toks.length (pw_strs toks) ∧ Below w.heap.size w wr ∧ toks.length ≤ i ∧ skipL (q.data.toList.drop i) = 0 ∧
    lexQ q.data.toList = (toks ++ (lexQ (q.data.toList.drop i)).1, (lexQ (q.data.toList.drop i)).2)
def SigPost (q : ByteArray) (w : World) (e : Ending) (w' : World) : Prop :=
  Below w.heap.size w w' ∧ (((lexQ q.data.toList).2 = true ∧ e = .returned (.tuple #[.slice none 0 0, .bool false])) ∨
    ((lexQ q.data.toList).2 = false ∧ ∃ A c, e = .returned (.tuple #[.slice A (lexQ q.data.toList).1.length c, .bool true]) ∧ (lexQ q.data.toList).1.length ≤ c ∧ TokR w' A (lexQ q.data.toList).1))
theorem infoStr : (Tryz.prog.info? 9).map (fun i => (i.zero, i.size, i.bytes)) = some (some (.string ⟨#[]⟩), 1, 16) := by kernel_rfl
set_option maxHeartbeats 4000000 in
set_option maxRecDepth 100000 in
theorem signs_any (q : ByteArray) (w : World) (hq : q.size ≤ 1000) : Calls Tryz.prog 31 #[.string q] w (SigPost q w) := by
  have hsk := rSkip_any q 0 (skipL q.data.toList) w (by omega) (Nat.zero_le _) (by simp)
  have hsk' : Calls Tryz.prog 50 #[.string q, .int .i64 0] w _ := hsk
  have hle : skipL q.data.toList ≤ q.size := by have := skipL_le q.data.toList; rwa [Array.length_toList] at this
  have HST : Aside0 (SigI q w q.size (.slice none 0 0) (.int .i64 (skipL q.data.toList : Nat)) w) := ⟨_, [], rfl, hle, by omega, World.ownsRow_nil _ _ _ _, Below.refl _ _, by simp, skip_drop _, by rw [lexQ_skip]; rfl⟩
  clear hsk
  go_enter Tryz.func31, Tryz.ntmps31
  go_wp2_with (go_at_call 50; refine hsk'.mono ?_; rintro e w' ⟨rfl, rfl⟩)
  go_loopg [4, 5, 6, 7, 8] q.size (fun gk ov iv _ _ _ wr => Aside0 (SigI q w gk ov iv wr))
  case atStart => exact HST
  case round =>
    obtain ⟨i, toks, rfl, hi, hgk, hown, hbel, hlen, hs0, hlex⟩ := hrel.out
    clear hrel HST hsk' hle
    have hi0 : (0 : Int) ≤ (i : Int) := by omega
    have HOWN := Aside0.mk hown
    have HBEL := Aside0.mk hbel
    have HS0 := Aside0.mk hs0
    have HLEX := Aside0.mk hlex
    have HLEN := Aside0.mk hlen
    have HGK := Aside0.mk hgk
    obtain ⟨A, c, hv⟩ := own_slice hown
    clear hown hbel hs0 hlex hlen hgk
    by_cases hlt : i < q.size
    · have hi1 : (i : Int) < (q.size : Int) := by omega
      have HD := Aside0.mk (drop_at q i hlt)
      have hnl : nameL (q.data.toList.drop i) ≤ q.size - i := by have := nameL_le (q.data.toList.drop i); rwa [List.length_drop, Array.length_toList] at this
      have hdl : digL (q.data.toList.drop i) ≤ q.size - i := by have := digL_le (q.data.toList.drop i); rwa [List.length_drop, Array.length_toList] at this
      have hne := rNameEnd_any q i (i + nameL (q.data.toList.drop i)) wr (by omega) hi rfl
      have HND := Aside0.mk (name_dig (q.data.toList.drop i))
      obtain ⟨nm, HN⟩ : ∃ nm, Aside0 (nameL (q.data.toList.drop i) = nm) := ⟨_, ⟨rfl⟩⟩
      obtain ⟨dg, HG⟩ : ∃ dg, Aside0 (digL (q.data.toList.drop i) = dg) := ⟨_, ⟨rfl⟩⟩
      rw [HN.out] at hnl hne
      rw [HG.out] at hdl
      obtain ⟨n, hn, hnn⟩ : ∃ n : Nat, i + nm = n ∧ n ≤ q.size := ⟨_, rfl, by omega⟩
      rw [hn] at hne
      subst hv
      have hcl := own_le HOWN.out
      go_upto_if 20 with (go_at_call 51; refine hne.mono ?_; rintro e w' ⟨rfl, rfl⟩)
      clear hne
      go_cut [6, 20] (fun e _ wx => wr = wx ∧ e = .int .i64 ((i + max nm dg : Nat) : Int))
      case first =>
        by_cases hz : nm = 0
        · obtain rfl : i = n := by omega
          go_wp2
          go_loop [6] (fun e => ∃ k : Nat, i ≤ k ∧ k ≤ q.size ∧ e = .int .i64 k ∧ Aside0 (k + digL (q.data.toList.drop k) = i + dg)) (fun e => q.size - (intOf e).toNat)
          case atStart => exact ⟨i, Nat.le_refl _, hi, rfl, ⟨by rw [HG.out]⟩⟩
          case round =>
            obtain ⟨k, hik, hk, rfl, H⟩ := hrel
            have hk0 : (0 : Int) ≤ (k : Int) := by omega
            by_cases hlt2 : k < q.size
            · have HD2 := Aside0.mk (drop_at q k hlt2)
              have hk1 : (k : Int) < (q.size : Int) := by omega
              have HI := Aside0.mk (dg_iff q[k])
              by_cases hd : isDg q[k] = true
              · have hd1 := (HI.out.1 hd).1
                have hd2 := (HI.out.1 hd).2
                go_wp2
                go_round
                case rel => exact ⟨k + 1, by omega, by omega, by go_num, ⟨by rw [← H.out, HD2.out, digL, if_pos hd]; omega⟩⟩
                case measure => simp [intOf]; omega
              · have HE : Aside0 (k = i + dg) := ⟨by rw [← H.out, HD2.out, digL, if_neg hd]; rfl⟩
                by_cases hd1 : (48 : Int) ≤ (q[k].toNat : Int)
                · have hd2 : ¬ (q[k].toNat : Int) ≤ 57 := fun h => hd (HI.out.2 ⟨hd1, h⟩)
                  go_wp2
                  go_meet
                  case rel => exact ⟨rfl, by rw [HE.out]; congr 2; omega⟩
                · go_wp2
                  go_meet
                  case rel => exact ⟨rfl, by rw [HE.out]; congr 2; omega⟩
            · obtain rfl : k = q.size := by omega
              have HE : Aside0 (q.size = i + dg) := ⟨by rw [← H.out, drop_all _ _ (Nat.le_refl _), digL]; rfl⟩
              go_wp2
              go_meet
              case rel => exact ⟨rfl, by rw [HE.out]; congr 2; omega⟩
        · have hni : ¬ n = i := by omega
          have hni' : ¬ (n : Int) = (i : Int) := by omega
          have hdz : dg = 0 := by rw [← HG.out]; exact HND.out (by rw [HN.out]; omega)
          go_wp2
          go_meet
          case rel => exact ⟨rfl, by congr 2; omega⟩
      case rest =>
        obtain ⟨rfl, rfl⟩ := hcut
        have hnn0 : (0 : Int) ≤ ((i + max nm dg : Nat) : Int) := by omega
        have hnn1 : ((i + max nm dg : Nat) : Int) ≤ (q.size : Int) := by omega
        have HNE : Aside0 (q.data.toList.drop i ≠ []) := ⟨by rw [HD.out]; simp⟩
        obtain ⟨m, hm, HM⟩ : ∃ m : Nat, i + max nm dg = m ∧ Aside0 (m = i + max nm dg) := ⟨_, rfl, ⟨rfl⟩⟩
        rw [hm] at hnn0 hnn1 ⊢
        clear hm
        go_upto_if 41 with fail
        go_cut [6, 7, 8, 41] (fun e _ _ _ wx => wr = wx ∧ ∃ t, Aside0 (tokL (q.data.toList.drop i) = some t) ∧ e = .int .i64 ((i + t.size : Nat) : Int))
        case first =>
          by_cases hz : nm = 0 ∧ dg = 0
          · obtain ⟨rfl, rfl⟩ := hz
            obtain rfl : i = m := by have := HM.out; omega
            have HTK := Aside0.mk (tokL_sign HN.out HG.out)
            have HONE := Aside0.mk (ones_iff q[i])
            have HBAD : Aside0 (q[i] ∉ ones → (lexQ q.data.toList).2 = true) := ⟨fun hc => by
              rw [HLEX.out, lexQ_bad HS0.out HNE.out (by rw [HTK.out, HD.out]; exact sig_none hc)]⟩
            by_cases h2 : i + 2 ≤ q.size
            · have h2' : (i : Int) + 2 ≤ (q.size : Int) := by omega
              have h2'' : (i : Int) ≤ (i : Int) + 2 := by omega
              have h2n : ((i : Int) + 2).toNat = i + 2 := by omega
              generalize hx : q.extract i (i + 2) = two
              have HX : Aside0 (two.data.toList = (q.data.toList.drop i).take 2) := ⟨by
                rw [← hx]
                simp [ByteArray.data_extract, List.extract_eq_take_drop]⟩
              by_cases t1 : two = ⟨#[47, 47]⟩
              · subst t1
                have HT : Aside0 (tokL (q.data.toList.drop i) = some tDs) := ⟨by
                  rw [HTK.out, ← List.take_append_drop 2 (q.data.toList.drop i), ← HX.out]; exact sig_ds _⟩
                go_wp2
                go_meet
                case rel => exact ⟨rfl, _, HT, rfl⟩
              by_cases t2 : two = ⟨#[46, 46]⟩
              · subst t2
                have HT : Aside0 (tokL (q.data.toList.drop i) = some tDd) := ⟨by
                  rw [HTK.out, ← List.take_append_drop 2 (q.data.toList.drop i), ← HX.out]; exact sig_dd _⟩
                go_wp2
                go_meet
                case rel => exact ⟨rfl, _, HT, rfl⟩
              have HT : Aside0 (q[i] ∈ ones → tokL (q.data.toList.drop i) = some (bs [q[i]])) := ⟨fun hc => by
                rw [HTK.out]
                have h3 := HX.out
                rw [HD.out] at h3 ⊢
                refine sig_one (fun r e => t1 (bs_ext ?_)) (fun r e => t2 (bs_ext ?_)) hc
                · rw [h3, e]; rfl
                · rw [h3, e]; rfl⟩
              have b1 : (two.toList == [47, 47]) = false := by rw [beq_eq_false_iff_ne, toList_data]; exact fun e => t1 (bs_ext e)
              have b2 : (two.toList == [46, 46]) = false := by rw [beq_eq_false_iff_ne, toList_data]; exact fun e => t2 (bs_ext e)
              clear t1 t2
              go_wp2
              all_goals first
                | (go_meet
                   case rel => exact ⟨rfl, _, ⟨HT.out (by rw [HONE.out]; (try simp only [beq_iff_eq, Bool.or_eq_true, not_or, Bool.or_eq_false_iff, beq_eq_false_iff_ne, ne_eq] at *); omega)⟩, congrArg (Value.int IntKind.i64) (show (i : Int) + 1 = ((i + (bs [q[i]]).size : Nat) : Int) by rw [bs_size]; simp)⟩)
                | (go_ret2
                   exact ⟨HBEL.out, .inl ⟨HBAD.out (by rw [HONE.out]; (try simp only [beq_iff_eq, Bool.or_eq_true, not_or, Bool.or_eq_false_iff, beq_eq_false_iff_ne, ne_eq] at *); omega), rfl⟩⟩)
            · have h2' : ¬ (i : Int) + 2 ≤ (q.size : Int) := by omega
              have HT : Aside0 (q[i] ∈ ones → tokL (q.data.toList.drop i) = some (bs [q[i]])) := ⟨fun hc => by
                rw [HTK.out]
                have h3 : (q.data.toList.drop i).length < 2 := by rw [List.length_drop, Array.length_toList]; have : q.data.size = q.size := rfl; omega
                rw [HD.out] at h3 ⊢
                refine sig_one (fun r e => ?_) (fun r e => ?_) hc
                · rw [e] at h3; simp at h3; omega
                · rw [e] at h3; simp at h3; omega⟩
              go_wp2
              all_goals first
                | (go_meet
                   case rel => exact ⟨rfl, _, ⟨HT.out (by rw [HONE.out]; (try simp only [beq_iff_eq, Bool.or_eq_true, not_or, Bool.or_eq_false_iff, beq_eq_false_iff_ne, ne_eq] at *); omega)⟩, congrArg (Value.int IntKind.i64) (show (i : Int) + 1 = ((i + (bs [q[i]]).size : Nat) : Int) by rw [bs_size]; simp)⟩)
                | (go_ret2
                   exact ⟨HBEL.out, .inl ⟨HBAD.out (by rw [HONE.out]; (try simp only [beq_iff_eq, Bool.or_eq_true, not_or, Bool.or_eq_false_iff, beq_eq_false_iff_ne, ne_eq] at *); omega), rfl⟩⟩)
          · have hni : ¬ (m : Int) = (i : Int) := by have := HM.out; omega
            have HT : Aside0 (tokL (q.data.toList.drop i) = some (bs ((q.data.toList.drop i).take (max nm dg)))) := ⟨by
              unfold tokL
              rw [HN.out, HG.out, if_pos (by omega)]⟩
            have HZ : Aside0 (m = i + (bs ((q.data.toList.drop i).take (max nm dg))).size) := ⟨by
              rw [bs_size, List.length_take, List.length_drop, Array.length_toList, HM.out]
              have : q.data.size = q.size := rfl
              omega⟩
            go_wp2
            go_meet
            case rel => exact ⟨rfl, _, HT, by rw [← HZ.out]⟩
        case rest =>
          obtain ⟨rfl, t, HT, rfl⟩ := hcut
          have hts := tokL_size HT.out
          have htl : i + t.size ≤ q.size := by
            have := hts.2.1
            rw [List.length_drop, Array.length_toList] at this
            have : q.data.size = q.size := rfl
            omega
          have hcut := tok_cut HT.out
          have ht1 := hts.1
          have HNX := Aside0.mk (lexQ_tok HS0.out HNE.out HT.out)
          have hskp := fun w => rSkip_any q (i + t.size) (i + t.size + skipL (q.data.toList.drop (i + t.size))) w (by omega) htl rfl
          have hsl : skipL (q.data.toList.drop (i + t.size)) ≤ q.size - (i + t.size) := by have := skipL_le (q.data.toList.drop (i + t.size)); rwa [List.length_drop, Array.length_toList] at this
          have e0 : (i : Int) ≤ ((i + t.size : Nat) : Int) := by omega
          have e1 : ((i + t.size : Nat) : Int) ≤ (q.size : Int) := by omega
          obtain ⟨E, hE, HE⟩ : ∃ E : Nat, i + t.size = E ∧ Aside0 (i + t.size = E) := ⟨_, rfl, ⟨rfl⟩⟩
          rw [hE] at hskp e0 e1 hcut hsl ⊢
          clear hE hts
          have HLB : Aside0 ((toks.length + 1) * 16 ≤ 140737488355328) := ⟨by have := HLEN.out; omega⟩
          go_wp2_with (at_builtin; refine print_append (w0 := w) w.heap.size rfl (.tmp 95) (.tmp 100) 69 9 (.string ⟨#[]⟩) 16 rfl Tryz.underlying69 infoStr rfl (by decide) (.slice A toks.length c) (pw_strs toks) (.string t) rfl rfl rfl (by simpa [pw_strs] using HOWN.out) HBEL.out HBEL.out.size (by simpa [pw_strs] using HLB.out) ?_; intro v1 w2 ho hbel hg hat; have HO2 := Aside0.mk ho; have HB2 := Aside0.mk hbel; clear ho hbel hg hat)
          refine (hskp w2).mono ?_
          rintro e w3 ⟨rfl, rfl⟩
          go_wp2
          go_roundg (q.size - (E + skipL (q.data.toList.drop E)))
          case measure => have := HE.out; have := HGK.out; omega
          case rel =>
            have h3 := HO2.out
            rw [strs_more] at h3
            refine ⟨E + skipL (q.data.toList.drop E), toks ++ [t], rfl, by omega, Nat.le_refl _, by simpa [pw_strs] using h3, HB2.out, by have := HLEN.out; have := HE.out; simp; omega, ?_, ?_⟩
            · rw [← List.drop_drop]; exact skip_drop _
            · rw [HLEX.out, HNX.out]
              simp [List.drop_drop, ← HE.out, Nat.add_assoc]
    · obtain rfl : i = q.size := by omega
      have HE : Aside0 (lexQ q.data.toList = (toks, false)) := ⟨by
        rw [HLEX.out, drop_all _ _ (Nat.le_refl _)]
        simp [lexQ, lexL]⟩
      subst hv
      have hcl := own_le HOWN.out
      go_wp2
      go_ret2
      refine ⟨HBEL.out, .inr ?_⟩
      rw [HE.out]
      exact ⟨rfl, A, c, rfl, hcl, row_tokR HOWN.out⟩
end Go.Proofs.YtoanmoddppmffaaGreatDoor.T
