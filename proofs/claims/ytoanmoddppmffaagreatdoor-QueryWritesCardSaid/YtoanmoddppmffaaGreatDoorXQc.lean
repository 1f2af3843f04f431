/- Names, numbers, and the state of the reader. -/
import Derived.Test.YtoanmoddppmffaaGreatDoorXQb
namespace Go.Proofs.YtoanmoddppmffaaGreatDoor.T
open Go.RowKit Go.Shelf Go.Proofs.YtoanmoddppmffaaGreatDoorW.PrintWords
set_option linter.unusedVariables false
set_option linter.unusedSimpArgs false
theorem toList_data (s : ByteArray) : s.toList = s.data.toList := Go.ByteArray.toList_eq s
theorem bs_ext {s t : ByteArray} (h : s.data.toList = t.data.toList) : s = t := Go.WideShapes.bytes_inj h
theorem nonempty_list {s : ByteArray} (h : ¬ s = ⟨#[]⟩) : s.toList.isEmpty = false ∧ (s.toList == []) = false := by
  have h1 : s.data.toList ≠ [] := fun e => h (bs_ext (by rw [e]))
  rw [toList_data]
  constructor
  · simpa using h1
  · simpa using h1
set_option maxHeartbeats 400000 in
theorem cName_any (s : ByteArray) (w : World) (hs : s.size ≤ 100000) :
    Calls Tryz.prog 45 #[.string s] w fun e w' => e = .returned (.bool (isNm s)) ∧ Below w.heap.size w w' := by
  by_cases h0 : s = ⟨#[]⟩
  · subst h0
    go_enter Tryz.func45, Tryz.ntmps45
    go_wp2
    go_ret
    exact ⟨rfl, Below.refl _ _⟩
  · have hl := (nonempty_list h0).1
    have HS := Aside0.mk (show 0 < s.size by
      rcases Nat.eq_zero_or_pos s.size with h | h
      · exact absurd (bs_ext (List.eq_nil_of_length_eq_zero (by rw [Array.length_toList]; exact h))) h0
      · exact h)
    go_enter Tryz.func45, Tryz.ntmps45
    go_wp2_with (go_at_call 39; refine (nameEnd_any s _ hs).mono ?_; rintro e w' ⟨rfl, hb⟩)
    go_ret
    refine ⟨congrArg Ending.returned (show Value.bool _ = _ from congrArg Value.bool ?_), hb⟩
    rw [isNm, decide_eq_true HS.out, Bool.true_and, Bool.eq_iff_iff, beq_iff_eq, beq_iff_eq]
    omega
theorem trim_dig : ∀ l : List UInt8, (Lib.trimLeftS l [48, 49, 50, 51, 52, 53, 54, 55, 56, 57]).length = l.length - digL l
  | [] => rfl
  | c :: l => by
    have hc : [48, 49, 50, 51, 52, 53, 54, 55, 56, 57].contains c = isDg c := by
      rw [Bool.eq_iff_iff, dg_iff]
      simp only [List.contains_iff_mem, List.mem_cons, List.not_mem_nil, or_false, ← UInt8.toNat_inj]
      have e0 : (48 : UInt8).toNat = 48 := rfl
      have e1 : (49 : UInt8).toNat = 49 := rfl
      have e2 : (50 : UInt8).toNat = 50 := rfl
      have e3 : (51 : UInt8).toNat = 51 := rfl
      have e4 : (52 : UInt8).toNat = 52 := rfl
      have e5 : (53 : UInt8).toNat = 53 := rfl
      have e6 : (54 : UInt8).toNat = 54 := rfl
      have e7 : (55 : UInt8).toNat = 55 := rfl
      have e8 : (56 : UInt8).toNat = 56 := rfl
      have e9 : (57 : UInt8).toNat = 57 := rfl
      omega
    have ih := trim_dig l
    unfold Lib.trimLeftS at ih ⊢
    rw [List.dropWhile_cons, hc, digL]
    cases isDg c with
    | true => simp only [if_true, List.length_cons]; omega
    | false => simp
set_option maxHeartbeats 400000 in
theorem number_any (s : ByteArray) (w : World) (hs : s.size ≤ 100000) :
    Calls Tryz.prog 40 #[.string s] w fun e w' => e = .returned (.int .i64 ((digL s.data.toList : Nat) : Int)) ∧ Below w.heap.size w w' := by
  have hcon := Any.strings_TrimLeft_laid Tryz.lays161 (by kernel_rfl) s ⟨#[48, 49, 50, 51, 52, 53, 54, 55, 56, 57]⟩ w (by decide) (ascii_of_all (by decide))
  change Calls Tryz.prog 58 _ _ (fun e w' => e = .returned (.string ⟨(Lib.trimLeftS s.data.toList [48, 49, 50, 51, 52, 53, 54, 55, 56, 57]).toArray⟩) ∧ Below w.heap.size w w') at hcon
  have HL : Aside0 ((⟨(Lib.trimLeftS s.data.toList [48, 49, 50, 51, 52, 53, 54, 55, 56, 57]).toArray⟩ : ByteArray).size = s.size - digL s.data.toList) := ⟨by
    show (Lib.trimLeftS s.data.toList [48, 49, 50, 51, 52, 53, 54, 55, 56, 57]).toArray.size = _
    rw [List.size_toArray, trim_dig, Array.length_toList]; rfl⟩
  have HD := Aside0.mk (show digL s.data.toList ≤ s.size by have := digL_le s.data.toList; rwa [Array.length_toList] at this)
  generalize (⟨(Lib.trimLeftS s.data.toList [48, 49, 50, 51, 52, 53, 54, 55, 56, 57]).toArray⟩ : ByteArray) = r at hcon HL
  have hr : r.size ≤ 100000 := by have := HL.out; omega
  go_enter Tryz.func40, Tryz.ntmps40
  go_wp2_with (go_at_call 58; refine hcon.mono ?_; rintro e w' ⟨rfl, hB⟩)
  go_ret
  refine ⟨congrArg Ending.returned (show Value.int _ _ = _ from congrArg (Value.int _) ?_), hB⟩
  have := HL.out
  have := HD.out
  omega
def rdO (left sign : ByteArray) (i : Int) (b : Bool) : Obj := .cells #[.string left, .string sign, .int .i64 i, .bool b] 51 (0, 0)
def Den (b : Bool) (left sign : ByteArray) : List Tok → Prop
  | [] => left = ⟨#[]⟩ ∧ sign = ⟨#[]⟩
  | t :: ts => sign = t ∧ 1 ≤ t.size ∧ Dg t ∧ ∃ rest, left.data.toList = t.data.toList ++ rest ∧ lexQ rest = (ts, b)
def StT (b : Bool) (w : World) (g : Nat) (i : Int) (ts : List Tok) : Prop := ∃ left sign, w.heap[g]? = some (rdO left sign i false) ∧ left.size ≤ 400 ∧ Den b left sign ts
def StW (w : World) (g : Nat) (i : Int) : Prop := w.heap[g]? = some (rdO ⟨#[]⟩ ⟨#[]⟩ i true)
def StO (b : Bool) (w : World) (g : Nat) (i : Int) : Option (List Tok) → Prop
  | some ts => StT b w g i ts
  | none => StW w g i
def Vr (w : World) : Prop := ∃ ev, w.cell? ⟨4, 0, none⟩ = some ev ∧ (ev = .nilIface ∨ ∃ te pe, ev = .iface te pe)
theorem Vr.move {w w' : World} (h : Vr w) {row : Option Nat} (hg : w.grownBy w' row) (hr : ∀ k, row = some k → 4 < k) : Vr w' := by
  obtain ⟨ev, hc, he⟩ := h
  exact ⟨ev, hg.cell hc (fun e => by have := hr _ e.symm; simp at this), he⟩
theorem gb_refl (w : World) (row : Option Nat) : w.grownBy w row := ⟨rfl, rfl, rfl, Nat.le_refl _, fun _ _ _ => rfl⟩
theorem gb_trans {w w1 w2 : World} {row row1 : Option Nat} (h : w.grownBy w1 row) (k : w1.grownBy w2 row1) (hr : row1 = row ∨ ∀ b, row1 = some b → w.heap.size ≤ b) : w.grownBy w2 row :=
  ⟨k.os.trans h.os, k.tape.trans h.tape, k.output.trans h.output, Nat.le_trans h.size k.size, fun i hi hn => (k.block i (Nat.lt_of_lt_of_le hi h.size) (by
    rcases hr with rfl | hr
    · exact hn
    · intro e; have := hr i e.symm; omega)).trans (h.block i hi hn)⟩
theorem gb_then {w w1 w2 : World} {row : Option Nat} (h : w.grownBy w1 row) (k : w1.grownBy w2 row) : w.grownBy w2 row := gb_trans h k (.inl rfl)
theorem gb_below {w w1 w2 : World} {row : Option Nat} (h : w.grownBy w1 row) (k : Below w1.heap.size w1 w2) : w.grownBy w2 row := gb_then h (grown_of_below k row)
theorem gb_set {w w1 : World} {g j : Nat} {u : Value} (h : w.grownBy w1 (some g)) : w.grownBy (w1.setCell ⟨g, j, none⟩ u) (some g) :=
  ⟨h.os, h.tape, h.output, by simpa [World.setCell] using h.size, fun i hi hn => (Below.heap_setCell w1 ⟨g, j, none⟩ u i (fun e => hn (by rw [e]))).trans (h.block i hi hn)⟩
theorem gb_setNew {w w1 : World} {row : Option Nat} {p : Addr} {u : Value} (h : w.grownBy w1 row) (hp : w.heap.size ≤ p.block) : w.grownBy (w1.setCell p u) row :=
  ⟨h.os, h.tape, h.output, by simpa [World.setCell] using h.size, fun i hi hn => (Below.heap_setCell w1 p u i (by omega)).trans (h.block i hi hn)⟩
theorem gb_alloc {w w1 : World} {row : Option Nat} (h : w.grownBy w1 row) (o : Obj) : w.grownBy (w1.alloc o) row := gb_below h (below_alloc (Below.refl _ _) o)
theorem gb_drew {w w1 : World} {row : Option Nat} (h : w.grownBy w1 row) : w.grownBy w1.drew row := gb_below h (below_drew (Below.refl _ _))
theorem below_gb {w w1 : World} {g B : Nat} (h : w.grownBy w1 (some g)) (hB : B ≤ w.heap.size) (hg : B ≤ g) : Below B w w1 := ⟨h.os, h.tape, h.output, h.size, fun i hi => h.block i (by omega) (fun e => by injection e; omega)⟩
set_option maxHeartbeats 1000000 in
theorem fails_any (g : Nat) (l s : ByteArray) (i : Int) (b : Bool) (w : World) (h : w.heap[g]? = some (rdO l s i b)) :
    Calls Tryz.prog 41 #[.pointer (some ⟨g, 0, none⟩)] w fun e w' => (∃ v, e = .returned v) ∧ StW w' g i ∧ w.grownBy w' (some g) := by
  unfold rdO at h
  have h0 : w.cell? ⟨g, 0, none⟩ = some (.string l) := (blk_cell h 0).trans rfl
  have h1 : w.cell? ⟨g, 1, none⟩ = some (.string s) := (blk_cell h 1).trans rfl
  have h3 : w.cell? ⟨g, 3, none⟩ = some (.bool b) := (blk_cell h 3).trans rfl
  have f0 := blk_frozen h 0
  have f1 := blk_frozen h 1
  have f3 := blk_frozen h 3
  have H := Aside0.mk h
  clear h
  go_enter Tryz.func41, Tryz.ntmps41
  go_wp2
  go_end0
  refine ⟨⟨_, rfl⟩, ?_, ?_⟩
  · exact blk_put (blk_put (blk_put H.out 3 (.bool true) rfl) 0 (.string ⟨#[]⟩) rfl) 1 (.string ⟨#[]⟩) rfl
  · exact gb_set (gb_set (gb_set (gb_refl _ _)))
set_option maxHeartbeats 400000 in
theorem next11_any (left t : ByteArray) (p : Addr) (g : Nat) (w : World) (hp : w.cell? p = some (.pointer (some ⟨g, 0, none⟩))) (hc : w.cell? ⟨g, 0, none⟩ = some (.string left)) :
    Calls Tryz.prog 37 #[.string t, .pointer (some p)] w fun e w' => e = .returned (.bool (t.data.toList.isPrefixOf left.data.toList)) ∧ w = w' := by
  have hcon := Tryz.strings_HasPrefix left t w
  go_enter Tryz.func37, Tryz.ntmps37
  go_wp2_with (go_at_call 38; refine hcon.mono ?_; rintro e w' ⟨rfl, rfl⟩)
  go_ret
  exact ⟨rfl, rfl⟩
def idxOf (o : Option Nat) : Int := match o with | some i => (i : Int) | none => -1
set_option maxHeartbeats 400000 in
theorem indexFunc_any (left : ByteArray) (l : List Tok) (B : Nat) (p : Addr) (g : Nat) (r : Option Nat) (w : World) (hp : w.cell? p = some (.pointer (some ⟨g, 0, none⟩))) (hc : w.cell? ⟨g, 0, none⟩ = some (.string left))
    (hl : ∀ k (h : k < l.length), w.cell? ⟨B, k, none⟩ = some (.string l[k])) (hn : l.length ≤ 1000) (hr : l.findIdx? (fun t => t.data.toList.isPrefixOf left.data.toList) = r) :
    Calls Tryz.prog 36 #[.slice (some ⟨B, 0, none⟩) l.length l.length, .func (.func 37) #[] #[.pointer (some p)]] w fun e w' => e = .returned (.int .i64 (idxOf r)) ∧ w = w' := by
  have HR := Aside0.mk hr
  have HL := Aside0.mk hl
  clear hr hl
  go_enter Tryz.func36, Tryz.ntmps36
  go_wp2
  go_loop [5, 8] (fun _ i => ∃ k : Nat, k ≤ l.length ∧ i = .int .i64 k ∧ Aside0 (((l.drop k).findIdx? (fun t => t.data.toList.isPrefixOf left.data.toList)).map (· + k) = r)) (fun _ i => l.length - (intOf i).toNat)
  case atStart => exact ⟨0, Nat.zero_le _, rfl, ⟨by rw [List.drop_zero, HR.out]; cases r <;> rfl⟩⟩
  case round =>
    obtain ⟨k, hk, rfl, H⟩ := hrel
    have hk0 : (0 : Int) ≤ (k : Int) := by omega
    by_cases hlt : k < l.length
    · have HD := Aside0.mk (List.drop_eq_getElem_cons hlt)
      have hcell := HL.out k hlt
      generalize hx : l[k] = x at hcell HD
      have HX := Aside0.mk hx
      clear hx
      have hk1 : (k : Int) < (l.length : Int) := by omega
      cases hpre : x.data.toList.isPrefixOf left.data.toList with
      | true =>
        have HP := Aside0.mk hpre
        go_wp2_with (go_at_call 37; refine (next11_any left x p g _ hp hc).mono ?_; rintro e w' ⟨rfl, rfl⟩)
        go_ret
        refine ⟨congrArg Ending.returned (show Value.int _ _ = _ from congrArg (Value.int _) ?_), rfl⟩
        rw [← H.out, HD.out, List.findIdx?_cons, HP.out]
        simp [idxOf]
      | false =>
        have HP := Aside0.mk hpre
        go_wp2_with (go_at_call 37; refine (next11_any left x p g _ hp hc).mono ?_; rintro e w' ⟨rfl, rfl⟩)
        go_round
        case rel =>
          refine ⟨k + 1, by omega, by go_num, ⟨?_⟩⟩
          rw [← H.out, HD.out, List.findIdx?_cons, HP.out]
          simp only [Bool.false_eq_true, if_false, Option.map_map]
          congr 1
          funext n
          simp only [Function.comp_apply]
          omega
        case measure => simp [intOf]; omega
    · obtain rfl : k = l.length := by omega
      go_wp2
      go_ret
      refine ⟨congrArg Ending.returned (show Value.int _ _ = _ from congrArg (Value.int _) ?_), rfl⟩
      rw [← H.out, List.drop_length]
      rfl
set_option maxHeartbeats 1000000 in
theorem next1_any (left sign : ByteArray) (n : Int) (b : Bool) (l : List Tok) (B : Nat) (p : Addr) (g : Nat) (o : Option Tok) (w : World) (hp : w.cell? p = some (.pointer (some ⟨g, 0, none⟩))) (hg : w.heap[g]? = some (rdO left sign n b))
    (hl : ∀ k (h : k < l.length), w.cell? ⟨B, k, none⟩ = some (.string l[k])) (hn : l.length ≤ 1000) (ho : l.find? (fun t => t.data.toList.isPrefixOf left.data.toList) = o) :
    Calls Tryz.prog 35 #[.slice (some ⟨B, 0, none⟩) l.length l.length, .pointer (some p)] w fun e w' => e = .returned (.bool o.isSome) ∧ w'.heap[g]? = some (rdO left (o.getD sign) n b) ∧ w.grownBy w' (some g) := by
  unfold rdO at hg
  have h0 : w.cell? ⟨g, 0, none⟩ = some (.string left) := (blk_cell hg 0).trans rfl
  have h1 : w.cell? ⟨g, 1, none⟩ = some (.string sign) := (blk_cell hg 1).trans rfl
  have f1 := blk_frozen hg 1
  have hcon := fun r h => indexFunc_any left l B p g r w hp h0 hl hn h
  have HG := Aside0.mk hg
  clear hg
  cases hi : l.findIdx? (fun t => t.data.toList.isPrefixOf left.data.toList) with
  | none =>
    have hcon := hcon none hi
    have HO : o = none := by
      rw [← ho, List.find?_eq_none]
      rw [List.findIdx?_eq_none_iff] at hi
      intro x hx
      simp [hi x hx]
    subst HO
    clear hi ho hl
    go_enter Tryz.func35, Tryz.ntmps35
    go_wp2_with (go_at_call 36; refine hcon.mono ?_; rintro e w' ⟨rfl, rfl⟩; simp only [idxOf])
    go_ret
    exact ⟨rfl, HG.out, gb_refl _ _⟩
  | some i =>
    have hcon := hcon (some i) hi
    obtain ⟨hlt, hpre, _⟩ := List.findIdx?_eq_some_iff_getElem.1 hi
    have HO : o = some l[i] := by
      rw [← ho, List.find?_eq_some_iff_getElem]
      refine ⟨hpre, i, hlt, rfl, ?_⟩
      intro j hj
      have := (List.findIdx?_eq_some_iff_getElem.1 hi).2.2 j hj
      simpa using this
    have hcell := hl i hlt
    generalize l[i] = x at hcell HO
    subst HO
    have hi0 : (0 : Int) ≤ (i : Int) := by omega
    have hi1 : (i : Int) < (l.length : Int) := by omega
    clear hi ho hl hpre
    go_enter Tryz.func35, Tryz.ntmps35
    go_wp2_with (go_at_call 36; refine hcon.mono ?_; rintro e w' ⟨rfl, rfl⟩; simp only [idxOf])
    go_region
    all_goals go_wp2
    all_goals go_ret
    exact ⟨rfl, blk_put HG.out 1 (.string x) rfl, gb_drew (gb_set (gb_refl _ _))⟩
end Go.Proofs.YtoanmoddppmffaaGreatDoor.T
