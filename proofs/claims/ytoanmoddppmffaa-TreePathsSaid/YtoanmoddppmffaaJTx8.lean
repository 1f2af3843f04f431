/- What each function of the program comes to, and its walk: laid by a program. -/
import Derived.Test.YtoanmoddppmffaaJTx0
import Derived.Test.YtoanmoddppmffaaJTx3
import Derived.Test.YtoanmoddppmffaaJTx4
import Derived.Test.YtoanmoddppmffaaJTx5
import Derived.Test.YtoanmoddppmffaaJTx6
import Derived.Test.YtoanmoddppmffaaJTx7
namespace Go.Proofs.Ytoanmoddppmffaa.T
open Go.RowKit Go.Proofs.YtoanmoddppmffaaW.PrintWords Go.Proofs.YtoanmoddppmffaaW.PrintLast Go.Proofs.YtoanmoddppmffaaW.PrintMore
set_option linter.unusedVariables false
set_option linter.unusedSimpArgs false
theorem quiet_drawn {P : Program} {f : FuncId} {args : Array Value} {w : World} {n : Nat} {v : Value}
  (h : Calls P f args (w.drewN n) fun e w' => e = .returned v ∧ Drawn0 (w.drewN n) w') : Calls P f args (w.drewN n) fun e w'' => e = .returned v ∧ ∃ m, w'' = w.drewN m :=
 Calls.quiet_of (h.mono fun _ _ ⟨he, hd⟩ => ⟨he, hd.out⟩)
def entNames : List (ByteArray × ByteArray) := [(⟨#[38, 108, 116, 59]⟩, ⟨#[60]⟩), (⟨#[38, 103, 116, 59]⟩, ⟨#[62]⟩), (⟨#[38, 97, 109, 112, 59]⟩, ⟨#[38]⟩), (⟨#[38, 113, 117, 111, 116, 59]⟩, ⟨#[34]⟩), (⟨#[38, 97, 112, 111, 115, 59]⟩, ⟨#[39]⟩)]
def entMarks : List (ByteArray × Int) := [(⟨#[38, 35, 120]⟩, 16), (⟨#[38, 35]⟩, 10)]
def entByName (s : ByteArray) (at_ : Int) (rest : Option (ByteArray × Int)) : List (ByteArray × ByteArray) → Option (ByteArray × Int)
 | [] => rest
 | (n, c) :: l => (topiaryref11_begins.f s at_ n).bind fun b => if b = true then some (c, (n.size : Int)) else entByName s at_ rest l
def entByNumber (k : Nat) (s : ByteArray) (at_ : Int) : List (ByteArray × Int) → Option (ByteArray × Int)
 | [] => some (⟨#[]⟩, 0)
 | (m, base) :: l => (topiaryref11_begins.f s at_ m).bind fun b => if b = true then
   ((topiaryref11_number.f k s (wrap64 (at_ + (m.size : Int))) base).bind fun nk => (topiaryref11_Allowed.f nk.1).bind fun may =>
    if 0 < nk.2 then (if may = true then (topiaryref11_Encode.f nk.1).bind fun t => some (t, wrap64 (wrap64 ((m.size : Int) + nk.2) + 1)) else entByNumber k s at_ l) else entByNumber k s at_ l)
   else entByNumber k s at_ l
def topiaryref11_Entity.f (k : Nat) (a0 : ByteArray) (a1 : Int) : Option (ByteArray × Int) := entByName a0 a1 (entByNumber k a0 a1 entMarks) entNames
def nmAt (i : Nat) : ByteArray := (entNames.getD i (⟨#[]⟩, ⟨#[]⟩)).1
def chAt (i : Nat) : ByteArray := (entNames.getD i (⟨#[]⟩, ⟨#[]⟩)).2
def mkAt (i : Nat) : ByteArray := (entMarks.getD i (⟨#[]⟩, 0)).1
def baAt (i : Nat) : Int := (entMarks.getD i (⟨#[]⟩, 0)).2
def namesO : Obj := .cells #[.string ⟨#[38, 108, 116, 59]⟩, .string ⟨#[38, 103, 116, 59]⟩, .string ⟨#[38, 97, 109, 112, 59]⟩, .string ⟨#[38, 113, 117, 111, 116, 59]⟩, .string ⟨#[38, 97, 112, 111, 115, 59]⟩] 89 (0, 0)
def charsO : Obj := .cells #[.string ⟨#[60]⟩, .string ⟨#[62]⟩, .string ⟨#[38]⟩, .string ⟨#[34]⟩, .string ⟨#[39]⟩] 89 (0, 0)
def marksO : Obj := .cells #[.string ⟨#[38, 35, 120]⟩, .string ⟨#[38, 35]⟩] 90 (0, 0)
def basesO : Obj := .cells #[.int .i64 16, .int .i64 10] 49 (0, 0)
theorem names_at {w : World} {g : Nat} (h : w.heap[g]? = some namesO) (i : Nat) (hi : i < 5) : w.cell? ⟨g, i, none⟩ = some (.string (nmAt i)) := by
 have h' : w.heap[g]? = some (.cells #[.string ⟨#[38, 108, 116, 59]⟩, .string ⟨#[38, 103, 116, 59]⟩, .string ⟨#[38, 97, 109, 112, 59]⟩, .string ⟨#[38, 113, 117, 111, 116, 59]⟩, .string ⟨#[38, 97, 112, 111, 115, 59]⟩] 89 (0, 0)) := h
 rw [blk_cell h' i]
 match i, hi with
 | 0, _ => rfl
 | 1, _ => rfl
 | 2, _ => rfl
 | 3, _ => rfl
 | 4, _ => rfl
theorem chars_at {w : World} {g : Nat} (h : w.heap[g]? = some charsO) (i : Nat) (hi : i < 5) : w.cell? ⟨g, i, none⟩ = some (.string (chAt i)) := by
 have h' : w.heap[g]? = some (.cells #[.string ⟨#[60]⟩, .string ⟨#[62]⟩, .string ⟨#[38]⟩, .string ⟨#[34]⟩, .string ⟨#[39]⟩] 89 (0, 0)) := h
 rw [blk_cell h' i]
 match i, hi with
 | 0, _ => rfl
 | 1, _ => rfl
 | 2, _ => rfl
 | 3, _ => rfl
 | 4, _ => rfl
theorem marks_at {w : World} {g : Nat} (h : w.heap[g]? = some marksO) (i : Nat) (hi : i < 2) : w.cell? ⟨g, i, none⟩ = some (.string (mkAt i)) := by
 have h' : w.heap[g]? = some (.cells #[.string ⟨#[38, 35, 120]⟩, .string ⟨#[38, 35]⟩] 90 (0, 0)) := h
 rw [blk_cell h' i]
 match i, hi with
 | 0, _ => rfl
 | 1, _ => rfl
theorem bases_at {w : World} {g : Nat} (h : w.heap[g]? = some basesO) (i : Nat) (hi : i < 2) : w.cell? ⟨g, i, none⟩ = some (.int .i64 (baAt i)) := by
 have h' : w.heap[g]? = some (.cells #[.int .i64 16, .int .i64 10] 49 (0, 0)) := h
 rw [blk_cell h' i]
 match i, hi with
 | 0, _ => rfl
 | 1, _ => rfl
theorem names_drop (i : Nat) (hi : i < 5) : entNames.drop i = (nmAt i, chAt i) :: entNames.drop (i + 1) := by
 match i, hi with
 | 0, _ => rfl
 | 1, _ => rfl
 | 2, _ => rfl
 | 3, _ => rfl
 | 4, _ => rfl
theorem marks_drop (i : Nat) (hi : i < 2) : entMarks.drop i = (mkAt i, baAt i) :: entMarks.drop (i + 1) := by
 match i, hi with
 | 0, _ => rfl
 | 1, _ => rfl
set_option maxHeartbeats 1000000 in
set_option maxRecDepth 100000 in
theorem topiaryref11_Entity.calls (k : Nat) (a0 : ByteArray) (a1 : Int) (r1 : ByteArray) (r2 : Int) (w : World) (h : topiaryref11_Entity.f k a0 a1 = some (r1, r2)) :
  Calls Try.prog 56 #[.string a0, .int .i64 a1] w fun e w' => e = .returned (.tuple #[.string r1, .int .i64 r2]) ∧ Below w.heap.size w w' := by
 have H := Aside0.mk h
 clear h
 go_enter Try.func56, Try.ntmps56
 go_wp2_with fail
 go_loopw [8] (fun v8 wr => ∃ i : Nat, v8 = .int .i64 i ∧ Aside0 (i ≤ 5) ∧ Aside0 (entByName a0 a1 (entByNumber k a0 a1 entMarks) (entNames.drop i) = some (r1, r2)) ∧ Aside0 (wr.heap[w.heap.size]? = some namesO) ∧ Aside0 (wr.heap[w.heap.size + 1]? = some charsO) ∧ Aside0 (Below w.heap.size w wr)) (fun v8 _ => 5 - (intOf v8).toNat)
 case atStart =>
  exact ⟨0, rfl, ⟨by omega⟩, ⟨H.out⟩, ⟨blk_alloc (blk_new w _) _⟩, ⟨show _ = some charsO from (by unfold charsO; simpa using blk_new (w.alloc _) _)⟩, ⟨below_alloc (below_alloc (Below.refl _ _) _) _⟩⟩
 case round =>
  clear H
  obtain ⟨i, rfl, hi5, H, BN, BC, HB⟩ := hrel
  by_cases hi : i < 5
  ·have hd : decide ((i : Int) < 5) = true := decide_eq_true (by omega)
   have hi0 : (0 : Int) ≤ (i : Int) := by omega
   have hi1 : (i : Int) < 5 := by omega
   have cn := names_at BN.out i hi
   have H2 := H.out
   rw [names_drop i hi] at H2
   simp only [entByName] at H2
   clear H
   obtain ⟨b, hb0, H3⟩ := Option.bind_eq_some_iff.mp H2
   clear H2
   have HBG := Aside0.mk hb0
   clear hb0
   cases b with
   | true =>
    have H4 : some (chAt i, ((nmAt i).size : Int)) = some (r1, r2) := H3
    have e1 : chAt i = r1 := congrArg Prod.fst (Option.some.inj H4)
    have e2 : ((nmAt i).size : Int) = r2 := congrArg Prod.snd (Option.some.inj H4)
    have E1 := Aside0.mk e1
    have E2 := Aside0.mk e2
    have cc := chars_at BC.out i hi
    clear H3 H4 e1 e2
    go_wp2_with (go_at_call 58; refine (topiaryref11_begins.calls a0 a1 (nmAt i) true _ HBG.out).mono ?_; rintro e w' ⟨rfl, ⟨nd, rfl⟩⟩)
    go_quiet (fail)
    go_wp2
    go_ret2
    exact ⟨by rw [← E1.out, ← E2.out]; rfl, pw_below_drewN (pw_below_drewN HB.out nd) nq⟩
   | false =>
    have H4 := Aside0.mk (show entByName a0 a1 (entByNumber k a0 a1 entMarks) (entNames.drop (i + 1)) = some (r1, r2) from H3)
    clear H3
    go_wp2_with (go_at_call 58; refine (topiaryref11_begins.calls a0 a1 (nmAt i) false _ HBG.out).mono ?_; rintro e w' ⟨rfl, ⟨nd, rfl⟩⟩)
    go_roundw
    case rel => exact ⟨i + 1, by go_num, ⟨by omega⟩, H4, ⟨blk_drewN BN.out nd⟩, ⟨blk_drewN BC.out nd⟩, ⟨pw_below_drewN HB.out nd⟩⟩
    case measure => simp [intOf]; omega
  ·have hd : decide ((i : Int) < 5) = false := decide_eq_false (by omega)
   obtain rfl : i = 5 := by have := hi5.out; omega
   have H2 : entByNumber k a0 a1 entMarks = some (r1, r2) := H.out
   have H3 := Aside0.mk H2
   clear H2 H hi
   go_wp2_with fail
   obtain ⟨wo, hwo⟩ : ∃ wo : World, wo = wr := ⟨_, rfl⟩
   rw [← hwo] at BN BC HB ⊢
   clear hwo
   go_loopw [12] (fun v12 wr => ∃ j : Nat, v12 = .int .i64 j ∧ Aside0 (j ≤ 2) ∧ Aside0 (entByNumber k a0 a1 (entMarks.drop j) = some (r1, r2)) ∧ Aside0 (wr.heap[wo.heap.size]? = some marksO) ∧ Aside0 (wr.heap[wo.heap.size + 1]? = some basesO) ∧ Aside0 (Below w.heap.size w wr)) (fun v12 _ => 2 - (intOf v12).toNat)
   case atStart =>
    exact ⟨0, rfl, ⟨by omega⟩, H3, ⟨blk_alloc (blk_new wo _) _⟩, ⟨show _ = some basesO from (by unfold basesO; simpa using blk_new (wo.alloc _) _)⟩, ⟨below_alloc (below_alloc HB.out _) _⟩⟩
   case round =>
    clear H3
    obtain ⟨j, rfl, hj2, H, BM, BB, HB2⟩ := hrel
    by_cases hj : j < 2
    ·have hd2 : decide ((j : Int) < 2) = true := decide_eq_true (by omega)
     have hj0 : (0 : Int) ≤ (j : Int) := by omega
     have hj1 : (j : Int) < 2 := by omega
     have cm := marks_at BM.out j hj
     have cb := bases_at BB.out j hj
     have H2 := H.out
     rw [marks_drop j hj] at H2
     simp only [entByNumber] at H2
     clear H
     obtain ⟨b, hb0, H3⟩ := Option.bind_eq_some_iff.mp H2
     clear H2
     have HBG := Aside0.mk hb0
     clear hb0
     cases b with
     | true =>
      rw [if_pos rfl] at H3
      obtain ⟨⟨n1, n2⟩, hnk, H5⟩ := Option.bind_eq_some_iff.mp H3
      clear H3
      obtain ⟨may, hmay, H6⟩ := Option.bind_eq_some_iff.mp H5
      clear H5
      have HNK := Aside0.mk hnk
      have HMAY := Aside0.mk hmay
      have H7 := Aside0.mk H6
      clear hnk hmay H6
      go_wp2_with (go_at_call 58; refine (topiaryref11_begins.calls a0 a1 (mkAt j) true _ HBG.out).mono ?_; rintro e w' ⟨rfl, ⟨nd, rfl⟩⟩)
      have cm2 : (wr.drewN nd).cell? ⟨wo.heap.size, j, none⟩ = some (.string (mkAt j)) := cm
      have cb2 : (wr.drewN nd).cell? ⟨wo.heap.size + 1, j, none⟩ = some (.int .i64 (baAt j)) := cb
      have BM2 := Aside0.mk (blk_drewN BM.out nd)
      have BB2 := Aside0.mk (blk_drewN BB.out nd)
      have HB3 := Aside0.mk (pw_below_drewN HB2.out nd)
      clear cm cb BM BB HB2
      generalize wr.drewN nd = wz at *
      go_quiet ((go_at_call 59; (try simp only [i64_w]); exact quiet_drawn (topiaryref11_number.calls k a0 (wrap64 (a1 + ((mkAt j).size : Int))) (baAt j) n1 n2 _ HNK.out)))
      have cm3 : (wz.drewN nq).cell? ⟨wo.heap.size, j, none⟩ = some (.string (mkAt j)) := cm2
      have cb3 : (wz.drewN nq).cell? ⟨wo.heap.size + 1, j, none⟩ = some (.int .i64 (baAt j)) := cb2
      have BM3 := Aside0.mk (blk_drewN BM2.out nq)
      have BB3 := Aside0.mk (blk_drewN BB2.out nq)
      have HB4 := Aside0.mk (pw_below_drewN HB3.out nq)
      clear cm2 cb2 BM2 BB2 HB3
      generalize wz.drewN nq = wy at *
      have H8 := H7.out
      clear H7
      by_cases hn2 : 0 < n2
      ·rw [if_pos hn2] at H8
       have hn2b : decide (0 < n2) = true := decide_eq_true hn2
       cases may with
       | true =>
        rw [if_pos rfl] at H8
        obtain ⟨t, ht, H9⟩ := Option.bind_eq_some_iff.mp H8
        have HT := Aside0.mk ht
        have e1 : t = r1 := congrArg Prod.fst (Option.some.inj H9)
        have e2 : wrap64 (wrap64 (((mkAt j).size : Int) + n2) + 1) = r2 := congrArg Prod.snd (Option.some.inj H9)
        have E1 := Aside0.mk e1
        have E2 := Aside0.mk e2
        clear ht H8 H9 e1 e2 hn2
        go_wp2_with (go_at_call 47; refine (topiaryref11_Allowed.calls n1 true _ HMAY.out).mono ?_; rintro e w' ⟨rfl, ⟨nd2, rfl⟩⟩)
        have cm4 : (wy.drewN nd2).cell? ⟨wo.heap.size, j, none⟩ = some (.string (mkAt j)) := cm3
        have HB5 := Aside0.mk (pw_below_drewN HB4.out nd2)
        clear cm3 cb3 BM3 BB3 HB4
        generalize wy.drewN nd2 = wx at *
        go_region_held3 (fun w' => w'.cell? ⟨wo.heap.size, j, none⟩ = some (.string (mkAt j)))
         (first | go_keep | exact pw_cell_below hb cm4)
         ((go_at_call 54; refine (topiaryref11_Encode.calls n1 t _ HT.out).mono ?_; rintro e w' ⟨rfl, hb⟩))
        have HB6 := Aside0.mk (below_step HB5.out.drew hb)
        clear hb
        go_wp2
        go_ret2
        exact ⟨by rw [← E1.out, ← E2.out]; simp [i64_w], HB6.out⟩
       | false =>
        have H9 := Aside0.mk (show entByNumber k a0 a1 (entMarks.drop (j + 1)) = some (r1, r2) from H8)
        clear H8 hn2
        go_wp2_with (go_at_call 47; refine (topiaryref11_Allowed.calls n1 false _ HMAY.out).mono ?_; rintro e w' ⟨rfl, ⟨nd2, rfl⟩⟩)
        go_roundw
        case rel =>
         repeat apply Exists.intro
         exact ⟨⟨j + 1, by go_num, ⟨by omega⟩, H9, ⟨blk_drewN BM3.out nd2⟩, ⟨blk_drewN BB3.out nd2⟩, ⟨pw_below_drewN HB4.out nd2⟩⟩, rfl⟩
        case measure => simp [intOf]; omega
      ·rw [if_neg hn2] at H8
       have hn2b : decide (0 < n2) = false := decide_eq_false hn2
       have H9 := Aside0.mk (show entByNumber k a0 a1 (entMarks.drop (j + 1)) = some (r1, r2) from H8)
       clear H8 hn2
       go_wp2_with (go_at_call 47; refine (topiaryref11_Allowed.calls n1 may _ HMAY.out).mono ?_; rintro e w' ⟨rfl, ⟨nd2, rfl⟩⟩)
       go_roundw
       case rel =>
        repeat apply Exists.intro
        exact ⟨⟨j + 1, by go_num, ⟨by omega⟩, H9, ⟨blk_drewN BM3.out nd2⟩, ⟨blk_drewN BB3.out nd2⟩, ⟨pw_below_drewN HB4.out nd2⟩⟩, rfl⟩
       case measure => simp [intOf]; omega
     | false =>
      have H4 := Aside0.mk (show entByNumber k a0 a1 (entMarks.drop (j + 1)) = some (r1, r2) from H3)
      clear H3
      go_wp2_with (go_at_call 58; refine (topiaryref11_begins.calls a0 a1 (mkAt j) false _ HBG.out).mono ?_; rintro e w' ⟨rfl, ⟨nd, rfl⟩⟩)
      go_roundw
      case rel =>
       repeat apply Exists.intro
       exact ⟨⟨j + 1, by go_num, ⟨by omega⟩, H4, ⟨blk_drewN BM.out nd⟩, ⟨blk_drewN BB.out nd⟩, ⟨pw_below_drewN HB2.out nd⟩⟩, rfl⟩
      case measure => simp [intOf]; omega
    ·obtain rfl : j = 2 := by have := hj2.out; omega
     have hd2 : decide ((2 : Int) < 2) = false := by decide
     have e0 : some ((⟨#[]⟩ : ByteArray), (0 : Int)) = some (r1, r2) := H.out
     have e1 : (⟨#[]⟩ : ByteArray) = r1 := congrArg Prod.fst (Option.some.inj e0)
     have e2 : (0 : Int) = r2 := congrArg Prod.snd (Option.some.inj e0)
     have E1 := Aside0.mk e1
     have E2 := Aside0.mk e2
     clear e0 e1 e2 H
     go_wp2_with fail
     go_ret2
     exact ⟨by rw [← E1.out, ← E2.out]; rfl, HB2.out⟩
def topiaryref12_decoded.l0 : Nat → ByteArray → ByteArray → Int → Option (ByteArray × Bool)
 | 0, _, _, _ => none
 | k + 1, x0, x4, x5 => if x5 < (x0.size : Int) then (if 0 ≤ x5 then (if (bt x0 x5) = 38 then ((topiaryref11_Entity.f k x0 x5).bind fun bt137 => (if bt137.2 = 0 then (some ((⟨#[]⟩ : ByteArray), false)) else (if x4.size + bt137.1.size ≤ 9223372036854775807 then (topiaryref12_decoded.l0 k x0 (x4 ++ bt137.1) (wrap64 (x5 + bt137.2))) else (none)))) else (if x5 ≤ (wrap64 (x5 + 1)) then (if (wrap64 (x5 + 1)) ≤ (x0.size : Int) then (if x4.size + (x0.extract (x5 : Int).toNat ((wrap64 (x5 + 1)) : Int).toNat).size ≤ 9223372036854775807 then (topiaryref12_decoded.l0 k x0 (x4 ++ (x0.extract (x5 : Int).toNat ((wrap64 (x5 + 1)) : Int).toNat)) (wrap64 (x5 + 1))) else (none)) else (none)) else (none))) else (none)) else (some (x4, true))
def topiaryref12_decoded.f (k : Nat) (a0 : ByteArray) : Option (ByteArray × Bool) := topiaryref12_decoded.l0 k a0 (⟨#[]⟩ : ByteArray) 0
set_option maxHeartbeats 8000000 in
set_option maxRecDepth 100000 in
theorem topiaryref12_decoded.calls (k : Nat) (a0 : ByteArray) (r1 : ByteArray) (r2 : Bool) (w : World) (h : topiaryref12_decoded.f k a0 = some (r1, r2)) :
  Calls Try.prog 52 #[.string a0] w fun e w' => e = .returned (.tuple #[.string r1, .bool r2]) ∧ Below w.heap.size w w' := by
 have HB := Aside0.mk (Below.refl w.heap.size w)
 have H : (topiaryref12_decoded.l0 k a0 (⟨#[]⟩ : ByteArray) 0) = some (r1, r2) := h
 clear h
 have H' := Aside0.mk H
 clear H
 go_enter Try.func52, Try.ntmps52
 go_wp2
 go_loopg [4, 5] k (fun kq v4 v5 w' => ∃ (x4_1 : ByteArray) (x5_1 : Int), v4 = .string x4_1 ∧ v5 = .int .i64 x5_1 ∧ Aside0 (topiaryref12_decoded.l0 kq a0 x4_1 x5_1 = some (r1, r2)) ∧ Aside0 (kq ≤ k) ∧ Aside0 (Below w.heap.size w w'))
 case atStart => exact ⟨((⟨#[]⟩ : ByteArray)), (0), sm_, sm_, H', ⟨Nat.le_refl _⟩, ⟨bb_ HB.out⟩⟩
 case round =>
  clear H'
  obtain ⟨x4_1, x5_1, rfl, rfl, HA, HK1, HB⟩ := hrel
  cases gk with
  | zero => exact absurd HA.out (by simp [topiaryref12_decoded.l0])
  | succ k1 =>
   have H := HA.out
   clear HA
   simp only [topiaryref12_decoded.l0] at H
   by_cases c2 : x5_1 < (a0.size : Int)
   ·rw [if_pos c2] at H
    have c2b0 : decide (x5_1 < (a0.size : Int)) = true := decide_eq_true c2
    clear c2
    by_cases c3 : 0 ≤ x5_1
    ·rw [if_pos c3] at H
     have c3b0 : decide (0 ≤ x5_1) = true := decide_eq_true c3
     clear c3
     by_cases c5 : (bt a0 x5_1) = 38
     ·rw [if_pos c5] at H
      have c5b0 : ((bt a0 x5_1) == 38) = true := beq_iff_eq.mpr c5
      have c5b1 : ((bt a0 x5_1) != 38) = false := bne_eq_false_iff_eq.mpr c5
      clear c5
      replace H := Option.bind_eq_some_iff.mp H
      obtain ⟨⟨t137, t138⟩, A60, H⟩ := H
      try dsimp only at H
      have A6 := Aside0.mk A60
      clear A60
      by_cases c7 : t138 = 0
      ·rw [if_pos c7] at H
       have c7b0 : (t138 == 0) = true := beq_iff_eq.mpr c7
       have c7b1 : (t138 != 0) = false := bne_eq_false_iff_eq.mpr c7
       clear c7
       simp only [Option.some.injEq, Prod.mk.injEq] at H
       obtain ⟨rfl, rfl⟩ := H
       have p4 : 0 ≤ (x5_1 : Int) := of_decide_eq_true as_
       have q4 : x5_1 < (a0.size : Int) := of_decide_eq_true as_
       have hx4 := bt_at a0 x5_1
       replace p4 := eq_true p4
       replace q4 := eq_true q4
       go_wp2_with (first | ((with_reducible refine gate_callee (f := 56) rfl ?_); refine goesL_ (some 28) rfl rfl Try.func56 (by kernel_rfl) rfl #[.string a0, .int .i64 x5_1] rfl ar_ ?_; (with_reducible refine (topiaryref11_Entity.calls k1 a0 x5_1 t137 t138 _ A6.out).mono ?_); rintro e w8 ⟨rfl, hb⟩; refine ⟨_, rfl, ?_⟩; have n0_ := Aside0.mk (below_step (bb_ HB.out) hb); clear HB; have HB := n0_; clear n0_; (try clear hb); (try clear hb2); (try clear hk); (try clear hi)))
       go_ret2
       exact ⟨by first | rfl | (simp [errW_none, errW_some] <;> rfl) | (simp [*, errW_none, errW_some] <;> rfl), bb_ HB.out⟩
      ·rw [if_neg c7] at H
       have c7b0 : (t138 == 0) = false := beq_eq_false_iff_ne.mpr c7
       have c7b1 : (t138 != 0) = true := bne_iff_ne.mpr c7
       by_cases c9 : x4_1.size + t137.size ≤ 9223372036854775807
       ·rw [if_pos c9] at H
        have c9b0 := eq_true c9
        have c9b1 : decide (x4_1.size + t137.size ≤ 9223372036854775807) = true := decide_eq_true c9
        try have c9b2 : (9223372036854775807 < x4_1.size + t137.size) = False := eq_false (Nat.not_lt.2 c9)
        have H' := Aside0.mk H
        clear H
        have p4 : 0 ≤ (x5_1 : Int) := of_decide_eq_true as_
        have q4 : x5_1 < (a0.size : Int) := of_decide_eq_true as_
        have hx4 := bt_at a0 x5_1
        replace p4 := eq_true p4
        replace q4 := eq_true q4
        go_wp2_with (first | ((with_reducible refine gate_callee (f := 56) rfl ?_); refine goesL_ (some 28) rfl rfl Try.func56 (by kernel_rfl) rfl #[.string a0, .int .i64 x5_1] rfl ar_ ?_; (with_reducible refine (topiaryref11_Entity.calls k1 a0 x5_1 t137 t138 _ A6.out).mono ?_); rintro e w10 ⟨rfl, hb⟩; refine ⟨_, rfl, ?_⟩; have n0_ := Aside0.mk (below_step (bb_ HB.out) hb); clear HB; have HB := n0_; clear n0_; (try clear hb); (try clear hb2); (try clear hk); (try clear hi)))
        go_roundg k1
        case measure => have := HK1.out; omega
        case rel => exact ⟨(x4_1 ++ t137), (wrap64 (x5_1 + t138)), sm_, sm_, H', ⟨by have := HK1.out; omega⟩, ⟨bb_ HB.out⟩⟩
       ·rw [if_neg c9] at H
        exact absurd H (by simp)
     ·rw [if_neg c5] at H
      have c5b0 : ((bt a0 x5_1) == 38) = false := beq_eq_false_iff_ne.mpr c5
      have c5b1 : ((bt a0 x5_1) != 38) = true := bne_iff_ne.mpr c5
      have c11b0 := eq_true (of_decide_eq_true as_ : 0 ≤ x5_1)
      by_cases c12 : x5_1 ≤ (wrap64 (x5_1 + 1))
      ·rw [if_pos c12] at H
       have c12b0 := eq_true c12
       have c12b1 : decide (x5_1 ≤ (wrap64 (x5_1 + 1))) = true := decide_eq_true c12
       by_cases c13 : (wrap64 (x5_1 + 1)) ≤ (a0.size : Int)
       ·rw [if_pos c13] at H
        have c13b0 := eq_true c13
        have c13b1 : decide ((wrap64 (x5_1 + 1)) ≤ (a0.size : Int)) = true := decide_eq_true c13
        by_cases c14 : x4_1.size + (a0.extract (x5_1 : Int).toNat ((wrap64 (x5_1 + 1)) : Int).toNat).size ≤ 9223372036854775807
        ·rw [if_pos c14] at H
         have c14b0 := eq_true c14
         have c14b1 : decide (x4_1.size + (a0.extract (x5_1 : Int).toNat ((wrap64 (x5_1 + 1)) : Int).toNat).size ≤ 9223372036854775807) = true := decide_eq_true c14
         try have c14b2 : (9223372036854775807 < x4_1.size + (a0.extract (x5_1 : Int).toNat ((wrap64 (x5_1 + 1)) : Int).toNat).size) = False := eq_false (Nat.not_lt.2 c14)
         have H' := Aside0.mk H
         clear H
         have p4 : 0 ≤ (x5_1 : Int) := of_decide_eq_true as_
         have q4 : x5_1 < (a0.size : Int) := of_decide_eq_true as_
         have hx4 := bt_at a0 x5_1
         replace p4 := eq_true p4
         replace q4 := eq_true q4
         go_wp2
         go_roundg k1
         case measure => have := HK1.out; omega
         case rel => exact ⟨(x4_1 ++ (a0.extract (x5_1 : Int).toNat ((wrap64 (x5_1 + 1)) : Int).toNat)), (wrap64 (x5_1 + 1)), sm_, sm_, H', ⟨by have := HK1.out; omega⟩, ⟨bb_ HB.out⟩⟩
        ·rw [if_neg c14] at H
         exact absurd H (by simp)
       ·rw [if_neg c13] at H
        exact absurd H (by simp)
      ·rw [if_neg c12] at H
       exact absurd H (by simp)
    ·rw [if_neg c3] at H
     exact absurd H (by simp)
   ·rw [if_neg c2] at H
    have c2b0 : decide (x5_1 < (a0.size : Int)) = false := decide_eq_false c2
    clear c2
    simp only [Option.some.injEq, Prod.mk.injEq] at H
    obtain ⟨rfl, rfl⟩ := H
    go_wp2
    go_ret2
    exact ⟨by first | rfl | (simp [errW_none, errW_some] <;> rfl) | (simp [*, errW_none, errW_some] <;> rfl), bb_ HB.out⟩
mutual
def topiaryref12_attr.j0 : Nat → ByteArray → Int → Int → Bool → Option (Int × Int × Int × ByteArray × ByteArray × Bool)
 | 0, _, _, _, _ => none
 | k + 1, x0, x6, x7, x27 => if x27 = true then (some (0, 0, 0, (⟨#[]⟩ : ByteArray), (⟨#[]⟩ : ByteArray), false)) else ((topiaryref11_Skip.f k x0 x7).bind fun t142 => ((topiaryref12_begins.f x0 t142 (⟨#[61]⟩ : ByteArray)).bind fun t143 => (if t143 = true then ((topiaryref11_Skip.f k x0 (wrap64 (t142 + 1))).bind fun t144 => ((topiaryref12_begins.f x0 t144 (⟨#[34]⟩ : ByteArray)).bind fun t145 => (if t145 = true then (topiaryref12_attr.j1 k x0 x6 x7 t144 false) else ((topiaryref12_begins.f x0 t144 (⟨#[39]⟩ : ByteArray)).bind fun t146 => (topiaryref12_attr.j1 k x0 x6 x7 t144 (!t146)))))) else (some (0, 0, 0, (⟨#[]⟩ : ByteArray), (⟨#[]⟩ : ByteArray), false)))))
def topiaryref12_attr.j1 : Nat → ByteArray → Int → Int → Int → Bool → Option (Int × Int × Int × ByteArray × ByteArray × Bool)
 | 0, _, _, _, _, _ => none
 | k + 1, x0, x6, x7, x9, x50 => if x50 = true then (some (0, 0, 0, (⟨#[]⟩ : ByteArray), (⟨#[]⟩ : ByteArray), false)) else (if 0 ≤ x9 then (if x9 ≤ (wrap64 (x9 + 1)) then (if (wrap64 (x9 + 1)) ≤ (x0.size : Int) then ((topiaryref12_find.f k x0 (wrap64 (x9 + 1)) (x0.extract (x9 : Int).toNat ((wrap64 (x9 + 1)) : Int).toNat)).bind fun t147 => (if t147 < 0 then (some (0, 0, 0, (⟨#[]⟩ : ByteArray), (⟨#[]⟩ : ByteArray), false)) else (if 0 ≤ (wrap64 (x9 + 1)) then (if (wrap64 (x9 + 1)) ≤ t147 then (if t147 ≤ (x0.size : Int) then ((topiaryref12_find.f k (x0.extract ((wrap64 (x9 + 1)) : Int).toNat (t147 : Int).toNat) 0 (⟨#[60]⟩ : ByteArray)).bind fun t148 => (if t148 ≥ 0 then (some (0, 0, 0, (⟨#[]⟩ : ByteArray), (⟨#[]⟩ : ByteArray), false)) else ((topiaryref12_decoded.f k (x0.extract ((wrap64 (x9 + 1)) : Int).toNat (t147 : Int).toNat)).bind fun bt149 => (if 0 ≤ x6 then (if x6 ≤ x7 then (if x7 ≤ (x0.size : Int) then (some (2, x6, wrap64 (t147 + 1), x0.extract (x6 : Int).toNat (x7 : Int).toNat, bt149.1, bt149.2)) else (none)) else (none)) else (none))))) else (none)) else (none)) else (none)))) else (none)) else (none)) else (none))
end
def topiaryref12_attr.f (k : Nat) (a0 : ByteArray) (a1 : Int) : Option (Int × Int × Int × ByteArray × ByteArray × Bool) := (topiaryref11_Skip.f k a0 a1).bind fun t140 => ((topiaryref11_NameEnd.f k a0 t140).bind fun t141 => (if t140 = a1 then (topiaryref12_attr.j0 k a0 t140 t141 true) else (topiaryref12_attr.j0 k a0 t140 t141 (t141 == t140))))
set_option maxHeartbeats 8000000 in
set_option maxRecDepth 100000 in
theorem topiaryref12_attr.calls (k : Nat) (a0 : ByteArray) (a1 : Int) (r1 : Int) (r2 : Int) (r3 : Int) (r4 : ByteArray) (r5 : ByteArray) (r6 : Bool) (w : World) (h : topiaryref12_attr.f k a0 a1 = some (r1, r2, r3, r4, r5, r6)) :
  Calls Try.prog 55 #[.string a0, .int .i64 a1] w fun e w' => e = .returned (.tuple #[.agg #[.int .i64 r1, .int .i64 r2, .int .i64 r3, .string r4, .string r5], .bool r6]) ∧ Below w.heap.size w w' := by
 have hu71 := Try.underlying71
 have HB := Aside0.mk (Below.refl w.heap.size w)
 have H : ((topiaryref11_Skip.f k a0 a1).bind fun t140 => ((topiaryref11_NameEnd.f k a0 t140).bind fun t141 => (if t140 = a1 then (topiaryref12_attr.j0 k a0 t140 t141 true) else (topiaryref12_attr.j0 k a0 t140 t141 (t141 == t140))))) = some (r1, r2, r3, r4, r5, r6) := h
 clear h
 replace H := Option.bind_eq_some_iff.mp H
 obtain ⟨t140, A30, H⟩ := H
 try dsimp only at H
 have A3 := Aside0.mk A30
 clear A30
 replace H := Option.bind_eq_some_iff.mp H
 obtain ⟨t141, A40, H⟩ := H
 try dsimp only at H
 have A4 := Aside0.mk A40
 clear A40
 have HC5 := Aside0.mk H
 clear H
 go_enter Try.func55, Try.ntmps55
 go_upto_region 3 with (first | ((with_reducible refine gate_dst (N := 4) rfl ?_); refine box_event ?hg (N := 4) ?hd (cs := #[.int .i64 0, .int .i64 0, .int .i64 0, .string (⟨#[]⟩ : ByteArray), .string (⟨#[]⟩ : ByteArray)]) (t := 71) ?hr ?_; (case hd => rfl); (case hg => rfl); (case hr => first | (go_simp; done) | (go_simp; rfl)); intro gb139 hg w6 hbox hb; have n0_ := Aside0.mk (below_step (bb_ HB.out) hb); have n1_ := Aside0.mk (hbox); have n2_ := Aside0.mk ((by rw [hg]; exact (below_size (bb_ HB.out)) : w.heap.size ≤ gb139)); have n3_ := Aside0.mk ((by rw [hg]; exact (below_size (bb_ HB.out)) : w.heap.size ≤ gb139)); clear HB; have HB := n0_; have BK139 := n1_; have GW139 := n2_; have GE139 := n3_; clear n0_ n1_ n2_ n3_; clear hb hbox hg) | ((with_reducible refine gate_callee (f := 43) rfl ?_); refine goesL_ (some 16) rfl rfl Try.func43 (by kernel_rfl) rfl #[.string a0, .int .i64 a1] rfl ar_ ?_; (with_reducible refine (topiaryref11_Skip.calls k a0 a1 t140 _ A3.out).mono ?_); rintro e w' ⟨rfl, ⟨nd, rfl⟩⟩; refine ⟨_, rfl, ?_⟩) | ((with_reducible refine gate_callee (f := 50) rfl ?_); refine goesL_ (some 19) rfl rfl Try.func50 (by kernel_rfl) rfl #[.string a0, .int .i64 t140] rfl ar_ ?_; (with_reducible refine (topiaryref11_NameEnd.calls k a0 t140 t141 _ A4.out).mono ?_); rintro e w' ⟨rfl, ⟨nd, rfl⟩⟩; refine ⟨_, rfl, ?_⟩))
 (try simp only [Act.put, List.setIfInBounds_toArray, List.set_cons_zero, List.set_cons_succ])
 go_cut [27] (fun v27 wc => ∃ (kq : Nat) (x27_4 : Bool), v27 = .bool x27_4 ∧ Aside0 (topiaryref12_attr.j0 kq a0 t140 t141 x27_4 = some (r1, r2, r3, r4, r5, r6)) ∧ Aside0 (kq ≤ k) ∧ Aside0 (wc.heap[gb139]? = some (.cells #[.int .i64 0, .int .i64 0, .int .i64 0, .string (⟨#[]⟩ : ByteArray), .string (⟨#[]⟩ : ByteArray)] 71 (0, 0))) ∧ Aside0 (Below w.heap.size w wc))
 case first =>
  have H := HC5.out
  clear HC5
  by_cases c7 : t140 = a1
  ·rw [if_pos c7] at H
   have c7b0 : (t140 == a1) = true := beq_iff_eq.mpr c7
   have c7b1 : (t140 != a1) = false := bne_eq_false_iff_eq.mpr c7
   clear c7
   (first | rw [c7b0] | (simp only [i64_w, i32_w]; rw [c7b0]) | skip)
   have H' := Aside0.mk H
   clear H
   go_wp2
   go_meet
   case rel => exact ⟨_, (true), sm_, H', ⟨by first | omega | exact Nat.le_refl _⟩, ⟨bk_ BK139.out⟩, ⟨bs_ HB.out GE139.out⟩⟩
  ·rw [if_neg c7] at H
   have c7b0 : (t140 == a1) = false := beq_eq_false_iff_ne.mpr c7
   have c7b1 : (t140 != a1) = true := bne_iff_ne.mpr c7
   (first | rw [c7b0] | (simp only [i64_w, i32_w]; rw [c7b0]) | skip)
   have H' := Aside0.mk H
   clear H
   go_wp2
   go_meet
   case rel => exact ⟨_, ((t141 == t140)), sm_, H', ⟨by first | omega | exact Nat.le_refl _⟩, ⟨bk_ BK139.out⟩, ⟨bs_ HB.out GE139.out⟩⟩
 case rest =>
  clear HC5
  try clear p2
  try clear c4
  try clear c5
  try clear c7
  try clear c7b0
  try clear c7b1
  obtain ⟨kq, x27_4, rfl, HA, HJ4, BK139, HB⟩ := hcut
  cases kq with
  | zero => exact absurd HA.out (by simp [topiaryref12_attr.j0])
  | succ kj4 =>
   have H := HA.out
   clear HA
   simp only [topiaryref12_attr.j0] at H
   by_cases c8 : x27_4 = true
   ·subst c8
    rw [if_pos rfl] at H
    have H1 := H
    clear H
    have H := H1
    clear H1
    simp only [Option.some.injEq, Prod.mk.injEq] at H
    obtain ⟨rfl, rfl, rfl, rfl, rfl, rfl⟩ := H
    have hcz9_0 : wc.cell? ⟨gb139, 0, none⟩ = some (.int .i64 0) := (blk_cell BK139.out 0).trans rfl
    have hcz9_1 : wc.cell? ⟨gb139, 1, none⟩ = some (.int .i64 0) := (blk_cell BK139.out 1).trans rfl
    have hcz9_2 : wc.cell? ⟨gb139, 2, none⟩ = some (.int .i64 0) := (blk_cell BK139.out 2).trans rfl
    have hcz9_3 : wc.cell? ⟨gb139, 3, none⟩ = some (.string (⟨#[]⟩ : ByteArray)) := (blk_cell BK139.out 3).trans rfl
    have hcz9_4 : wc.cell? ⟨gb139, 4, none⟩ = some (.string (⟨#[]⟩ : ByteArray)) := (blk_cell BK139.out 4).trans rfl
    have hfz9_0 := blk_frozen BK139.out 0
    have hfz9_1 := blk_frozen BK139.out 1
    have hfz9_2 := blk_frozen BK139.out 2
    have hfz9_3 := blk_frozen BK139.out 3
    have hfz9_4 := blk_frozen BK139.out 4
    go_wp2
    refine bodyPost_ret (results_ct rfl _ _ gb139 71 #[.int .i64 0, .int .i64 0, .int .i64 0, .string (⟨#[]⟩ : ByteArray), .string (⟨#[]⟩ : ByteArray)] (0, 0) _ rfl (by (with_reducible repeat (first | refine blk_drewN ?_ _ | refine blk_drew ?_ | refine blk_alloc ?_ _)); refine blk_put (cs := #[.int .i64 0, .int .i64 0, .int .i64 0, .string (⟨#[]⟩ : ByteArray), .string (⟨#[]⟩ : ByteArray)]) ?_ 4 _ rfl; (with_reducible repeat (first | refine blk_drewN ?_ _ | refine blk_drew ?_ | refine blk_alloc ?_ _)); refine blk_put (cs := #[.int .i64 0, .int .i64 0, .int .i64 0, .string (⟨#[]⟩ : ByteArray), .string (⟨#[]⟩ : ByteArray)]) ?_ 3 _ rfl; (with_reducible repeat (first | refine blk_drewN ?_ _ | refine blk_drew ?_ | refine blk_alloc ?_ _)); refine blk_put (cs := #[.int .i64 0, .int .i64 0, .int .i64 0, .string (⟨#[]⟩ : ByteArray), .string (⟨#[]⟩ : ByteArray)]) ?_ 2 _ rfl; (with_reducible repeat (first | refine blk_drewN ?_ _ | refine blk_drew ?_ | refine blk_alloc ?_ _)); refine blk_put (cs := #[.int .i64 0, .int .i64 0, .int .i64 0, .string (⟨#[]⟩ : ByteArray), .string (⟨#[]⟩ : ByteArray)]) ?_ 1 _ rfl; (with_reducible repeat (first | refine blk_drewN ?_ _ | refine blk_drew ?_ | refine blk_alloc ?_ _)); refine blk_put (cs := #[.int .i64 0, .int .i64 0, .int .i64 0, .string (⟨#[]⟩ : ByteArray), .string (⟨#[]⟩ : ByteArray)]) ?_ 0 _ rfl; exact bk_ BK139.out) Try.underlying71 rfl (by kernel_rfl)) rfl ?_
    exact ⟨by first | rfl | (simp [errW_none, errW_some] <;> rfl) | (simp [*, errW_none, errW_some] <;> rfl), bs_ HB.out GE139.out⟩
   ·replace c8 := Bool.eq_false_iff.mpr c8
    subst c8
    rw [if_neg (show ¬ (false = true) by decide)] at H
    have H1 := H
    clear H
    have H := H1
    clear H1
    replace H := Option.bind_eq_some_iff.mp H
    obtain ⟨t142, A100, H⟩ := H
    try dsimp only at H
    have A10 := Aside0.mk A100
    clear A100
    replace H := Option.bind_eq_some_iff.mp H
    obtain ⟨t143, A110, H⟩ := H
    try dsimp only at H
    have A11 := Aside0.mk A110
    clear A110
    by_cases c12 : t143 = true
    ·subst c12
     rw [if_pos rfl] at H
     have H1 := H
     clear H
     have H := H1
     clear H1
     replace H := Option.bind_eq_some_iff.mp H
     obtain ⟨t144, A130, H⟩ := H
     try dsimp only at H
     have A13 := Aside0.mk A130
     clear A130
     have HC14 := Aside0.mk H
     clear H
     go_upto_region 9 with (first | ((with_reducible refine gate_callee (f := 43) rfl ?_); refine goesL_ (some 31) rfl rfl Try.func43 (by kernel_rfl) rfl #[.string a0, .int .i64 t141] rfl ar_ ?_; (with_reducible refine (topiaryref11_Skip.calls kj4 a0 t141 t142 _ A10.out).mono ?_); rintro e w' ⟨rfl, ⟨nd, rfl⟩⟩; refine ⟨_, rfl, ?_⟩) | ((with_reducible refine gate_callee (f := 48) rfl ?_); refine goesL_ (some 34) rfl rfl Try.func48 (by kernel_rfl) rfl #[.string a0, .int .i64 t142, .string (⟨#[61]⟩ : ByteArray)] rfl ar_ ?_; (with_reducible refine (topiaryref12_begins.calls a0 t142 (⟨#[61]⟩ : ByteArray) true _ A11.out).mono ?_); rintro e w' ⟨rfl, ⟨nd, rfl⟩⟩; refine ⟨_, rfl, ?_⟩) | ((with_reducible refine gate_callee (f := 43) rfl ?_); refine goesL_ (some 40) rfl rfl Try.func43 (by kernel_rfl) rfl #[.string a0, .int .i64 (wrap64 (t142 + 1))] rfl ar_ ?_; (with_reducible refine (topiaryref11_Skip.calls kj4 a0 (wrap64 (t142 + 1)) t144 _ A13.out).mono ?_); rintro e w' ⟨rfl, ⟨nd, rfl⟩⟩; refine ⟨_, rfl, ?_⟩))
     (try simp only [Act.put, List.setIfInBounds_toArray, List.set_cons_zero, List.set_cons_succ])
     go_cut [50] (fun v50 wc => ∃ (kq : Nat) (x50_13 : Bool), v50 = .bool x50_13 ∧ Aside0 (topiaryref12_attr.j1 kq a0 t140 t141 t144 x50_13 = some (r1, r2, r3, r4, r5, r6)) ∧ Aside0 (kq ≤ kj4) ∧ Aside0 (wc.heap[gb139]? = some (.cells #[.int .i64 0, .int .i64 0, .int .i64 0, .string (⟨#[]⟩ : ByteArray), .string (⟨#[]⟩ : ByteArray)] 71 (0, 0))) ∧ Aside0 (Below w.heap.size w wc))
     case first =>
      have H := HC14.out
      clear HC14
      replace H := Option.bind_eq_some_iff.mp H
      obtain ⟨t145, A150, H⟩ := H
      try dsimp only at H
      have A15 := Aside0.mk A150
      clear A150
      by_cases c16 : t145 = true
      ·subst c16
       rw [if_pos rfl] at H
       have H1 := H
       clear H
       have H := H1
       clear H1
       have H' := Aside0.mk H
       clear H
       go_wp2_with (first | ((with_reducible refine gate_callee (f := 48) rfl ?_); refine goesL_ (some 43) rfl rfl Try.func48 (by kernel_rfl) rfl #[.string a0, .int .i64 t144, .string (⟨#[34]⟩ : ByteArray)] rfl ar_ ?_; (with_reducible refine (topiaryref12_begins.calls a0 t144 (⟨#[34]⟩ : ByteArray) true _ A15.out).mono ?_); rintro e w' ⟨rfl, ⟨nd, rfl⟩⟩; refine ⟨_, rfl, ?_⟩))
       go_meet
       case rel => exact ⟨_, (false), sm_, H', ⟨by have := HJ4.out; first | omega | exact Nat.le_refl _⟩, ⟨bk_ BK139.out⟩, ⟨bs_ HB.out GE139.out⟩⟩
      ·replace c16 := Bool.eq_false_iff.mpr c16
       subst c16
       rw [if_neg (show ¬ (false = true) by decide)] at H
       have H1 := H
       clear H
       have H := H1
       clear H1
       replace H := Option.bind_eq_some_iff.mp H
       obtain ⟨t146, A170, H⟩ := H
       try dsimp only at H
       have A17 := Aside0.mk A170
       clear A170
       have H' := Aside0.mk H
       clear H
       go_wp2_with (first | ((with_reducible refine gate_callee (f := 48) rfl ?_); refine goesL_ (some 43) rfl rfl Try.func48 (by kernel_rfl) rfl #[.string a0, .int .i64 t144, .string (⟨#[34]⟩ : ByteArray)] rfl ar_ ?_; (with_reducible refine (topiaryref12_begins.calls a0 t144 (⟨#[34]⟩ : ByteArray) false _ A15.out).mono ?_); rintro e w' ⟨rfl, ⟨nd, rfl⟩⟩; refine ⟨_, rfl, ?_⟩) | (go_at_call 48; (with_reducible refine (topiaryref12_begins.calls a0 t144 (⟨#[39]⟩ : ByteArray) t146 _ A17.out).mono ?_); rintro e w' ⟨rfl, ⟨nd, rfl⟩⟩))
       go_meet
       case rel => exact ⟨_, (!t146), sm_, H', ⟨by have := HJ4.out; first | omega | exact Nat.le_refl _⟩, ⟨bk_ BK139.out⟩, ⟨bs_ HB.out GE139.out⟩⟩
     case rest =>
      clear HC14
      try clear c1
      try clear p2
      try clear c4
      try clear c5
      try clear p6
      try clear c7
      try clear c7b0
      try clear c7b1
      try clear c8
      try clear c12
      try clear c16
      try clear hcz9_0
      try clear hcz9_1
      try clear hcz9_2
      try clear hcz9_3
      try clear hcz9_4
      try clear hfz9_0
      try clear hfz9_1
      try clear hfz9_2
      try clear hfz9_3
      try clear hfz9_4
      try clear p2
      obtain ⟨kq, x50_13, rfl, HA, HJ13, BK139, HB⟩ := hcut
      cases kq with
      | zero => exact absurd HA.out (by simp [topiaryref12_attr.j1])
      | succ kj13 =>
       have H := HA.out
       clear HA
       simp only [topiaryref12_attr.j1] at H
       by_cases c18 : x50_13 = true
       ·subst c18
        rw [if_pos rfl] at H
        have H1 := H
        clear H
        have H := H1
        clear H1
        simp only [Option.some.injEq, Prod.mk.injEq] at H
        obtain ⟨rfl, rfl, rfl, rfl, rfl, rfl⟩ := H
        have hcz19_0 : wc.cell? ⟨gb139, 0, none⟩ = some (.int .i64 0) := (blk_cell BK139.out 0).trans rfl
        have hcz19_1 : wc.cell? ⟨gb139, 1, none⟩ = some (.int .i64 0) := (blk_cell BK139.out 1).trans rfl
        have hcz19_2 : wc.cell? ⟨gb139, 2, none⟩ = some (.int .i64 0) := (blk_cell BK139.out 2).trans rfl
        have hcz19_3 : wc.cell? ⟨gb139, 3, none⟩ = some (.string (⟨#[]⟩ : ByteArray)) := (blk_cell BK139.out 3).trans rfl
        have hcz19_4 : wc.cell? ⟨gb139, 4, none⟩ = some (.string (⟨#[]⟩ : ByteArray)) := (blk_cell BK139.out 4).trans rfl
        have hfz19_0 := blk_frozen BK139.out 0
        have hfz19_1 := blk_frozen BK139.out 1
        have hfz19_2 := blk_frozen BK139.out 2
        have hfz19_3 := blk_frozen BK139.out 3
        have hfz19_4 := blk_frozen BK139.out 4
        go_wp2
        refine bodyPost_ret (results_ct rfl _ _ gb139 71 #[.int .i64 0, .int .i64 0, .int .i64 0, .string (⟨#[]⟩ : ByteArray), .string (⟨#[]⟩ : ByteArray)] (0, 0) _ rfl (by (with_reducible repeat (first | refine blk_drewN ?_ _ | refine blk_drew ?_ | refine blk_alloc ?_ _)); refine blk_put (cs := #[.int .i64 0, .int .i64 0, .int .i64 0, .string (⟨#[]⟩ : ByteArray), .string (⟨#[]⟩ : ByteArray)]) ?_ 4 _ rfl; (with_reducible repeat (first | refine blk_drewN ?_ _ | refine blk_drew ?_ | refine blk_alloc ?_ _)); refine blk_put (cs := #[.int .i64 0, .int .i64 0, .int .i64 0, .string (⟨#[]⟩ : ByteArray), .string (⟨#[]⟩ : ByteArray)]) ?_ 3 _ rfl; (with_reducible repeat (first | refine blk_drewN ?_ _ | refine blk_drew ?_ | refine blk_alloc ?_ _)); refine blk_put (cs := #[.int .i64 0, .int .i64 0, .int .i64 0, .string (⟨#[]⟩ : ByteArray), .string (⟨#[]⟩ : ByteArray)]) ?_ 2 _ rfl; (with_reducible repeat (first | refine blk_drewN ?_ _ | refine blk_drew ?_ | refine blk_alloc ?_ _)); refine blk_put (cs := #[.int .i64 0, .int .i64 0, .int .i64 0, .string (⟨#[]⟩ : ByteArray), .string (⟨#[]⟩ : ByteArray)]) ?_ 1 _ rfl; (with_reducible repeat (first | refine blk_drewN ?_ _ | refine blk_drew ?_ | refine blk_alloc ?_ _)); refine blk_put (cs := #[.int .i64 0, .int .i64 0, .int .i64 0, .string (⟨#[]⟩ : ByteArray), .string (⟨#[]⟩ : ByteArray)]) ?_ 0 _ rfl; exact bk_ BK139.out) Try.underlying71 rfl (by kernel_rfl)) rfl ?_
        exact ⟨by first | rfl | (simp [errW_none, errW_some] <;> rfl) | (simp [*, errW_none, errW_some] <;> rfl), bs_ HB.out GE139.out⟩
       ·replace c18 := Bool.eq_false_iff.mpr c18
        subst c18
        rw [if_neg (show ¬ (false = true) by decide)] at H
        have H1 := H
        clear H
        have H := H1
        clear H1
        by_cases c20 : 0 ≤ t144
        ·rw [if_pos c20] at H
         have c20b0 := eq_true c20
         have c20b1 : decide (0 ≤ t144) = true := decide_eq_true c20
         clear c20
         by_cases c21 : t144 ≤ (wrap64 (t144 + 1))
         ·rw [if_pos c21] at H
          have c21b0 := eq_true c21
          have c21b1 : decide (t144 ≤ (wrap64 (t144 + 1))) = true := decide_eq_true c21
          by_cases c22 : (wrap64 (t144 + 1)) ≤ (a0.size : Int)
          ·rw [if_pos c22] at H
           have c22b0 := eq_true c22
           have c22b1 : decide ((wrap64 (t144 + 1)) ≤ (a0.size : Int)) = true := decide_eq_true c22
           replace H := Option.bind_eq_some_iff.mp H
           obtain ⟨t147, A230, H⟩ := H
           try dsimp only at H
           have A23 := Aside0.mk A230
           clear A230
           by_cases c24 : t147 < 0
           ·rw [if_pos c24] at H
            have c24b0 : decide (t147 < 0) = true := decide_eq_true c24
            clear c24
            simp only [Option.some.injEq, Prod.mk.injEq] at H
            obtain ⟨rfl, rfl, rfl, rfl, rfl, rfl⟩ := H
            go_wp2_with (first | ((with_reducible refine gate_callee (f := 49) rfl ?_); refine goesL_ (some 60) rfl rfl Try.func49 (by kernel_rfl) rfl #[.string a0, .int .i64 (wrap64 (t144 + 1)), .string (a0.extract (t144 : Int).toNat ((wrap64 (t144 + 1)) : Int).toNat)] rfl ar_ ?_; (with_reducible refine (topiaryref12_find.calls kj13 a0 (wrap64 (t144 + 1)) (a0.extract (t144 : Int).toNat ((wrap64 (t144 + 1)) : Int).toNat) t147 _ A23.out).mono ?_); rintro e w' ⟨rfl, ⟨nd, rfl⟩⟩; refine ⟨_, rfl, ?_⟩; (try (rw [drewN_self wc]; generalize hq_ : World.drewN wc _ = wc; have n0_ : Aside0 (wc.heap[gb139]? = some (.cells #[.int .i64 0, .int .i64 0, .int .i64 0, .string (⟨#[]⟩ : ByteArray), .string (⟨#[]⟩ : ByteArray)] 71 (0, 0))) := ⟨by rw [← hq_]; exact (bk_ BK139.out)⟩; have n1_ : Aside0 (Below w.heap.size w wc) := ⟨by rw [← hq_]; exact (bs_ HB.out GE139.out)⟩; clear BK139 HB hq_; have BK139 := n0_; have HB := n1_; clear n0_ n1_)); have hcz25_0 : wc.cell? ⟨gb139, 0, none⟩ = some (.int .i64 0) := (blk_cell BK139.out 0).trans rfl; have hcz25_1 : wc.cell? ⟨gb139, 1, none⟩ = some (.int .i64 0) := (blk_cell BK139.out 1).trans rfl; have hcz25_2 : wc.cell? ⟨gb139, 2, none⟩ = some (.int .i64 0) := (blk_cell BK139.out 2).trans rfl; have hcz25_3 : wc.cell? ⟨gb139, 3, none⟩ = some (.string (⟨#[]⟩ : ByteArray)) := (blk_cell BK139.out 3).trans rfl; have hcz25_4 : wc.cell? ⟨gb139, 4, none⟩ = some (.string (⟨#[]⟩ : ByteArray)) := (blk_cell BK139.out 4).trans rfl; have hfz25_0 := blk_frozen BK139.out 0; have hfz25_1 := blk_frozen BK139.out 1; have hfz25_2 := blk_frozen BK139.out 2; have hfz25_3 := blk_frozen BK139.out 3; have hfz25_4 := blk_frozen BK139.out 4))
            refine bodyPost_ret (results_ct rfl _ _ gb139 71 #[.int .i64 0, .int .i64 0, .int .i64 0, .string (⟨#[]⟩ : ByteArray), .string (⟨#[]⟩ : ByteArray)] (0, 0) _ rfl (by (with_reducible repeat (first | refine blk_drewN ?_ _ | refine blk_drew ?_ | refine blk_alloc ?_ _)); refine blk_put (cs := #[.int .i64 0, .int .i64 0, .int .i64 0, .string (⟨#[]⟩ : ByteArray), .string (⟨#[]⟩ : ByteArray)]) ?_ 4 _ rfl; (with_reducible repeat (first | refine blk_drewN ?_ _ | refine blk_drew ?_ | refine blk_alloc ?_ _)); refine blk_put (cs := #[.int .i64 0, .int .i64 0, .int .i64 0, .string (⟨#[]⟩ : ByteArray), .string (⟨#[]⟩ : ByteArray)]) ?_ 3 _ rfl; (with_reducible repeat (first | refine blk_drewN ?_ _ | refine blk_drew ?_ | refine blk_alloc ?_ _)); refine blk_put (cs := #[.int .i64 0, .int .i64 0, .int .i64 0, .string (⟨#[]⟩ : ByteArray), .string (⟨#[]⟩ : ByteArray)]) ?_ 2 _ rfl; (with_reducible repeat (first | refine blk_drewN ?_ _ | refine blk_drew ?_ | refine blk_alloc ?_ _)); refine blk_put (cs := #[.int .i64 0, .int .i64 0, .int .i64 0, .string (⟨#[]⟩ : ByteArray), .string (⟨#[]⟩ : ByteArray)]) ?_ 1 _ rfl; (with_reducible repeat (first | refine blk_drewN ?_ _ | refine blk_drew ?_ | refine blk_alloc ?_ _)); refine blk_put (cs := #[.int .i64 0, .int .i64 0, .int .i64 0, .string (⟨#[]⟩ : ByteArray), .string (⟨#[]⟩ : ByteArray)]) ?_ 0 _ rfl; exact bk_ BK139.out) Try.underlying71 rfl (by kernel_rfl)) rfl ?_
            exact ⟨by first | rfl | (simp [errW_none, errW_some] <;> rfl) | (simp [*, errW_none, errW_some] <;> rfl), bs_ HB.out GE139.out⟩
           ·rw [if_neg c24] at H
            have c24b0 : decide (t147 < 0) = false := decide_eq_false c24
            clear c24
            obtain ⟨ji26, hji26⟩ : ∃ j_ : Int, (wrap64 (t144 + 1)) = j_ := ⟨_, rfl⟩
            replace H : (if 0 ≤ (ji26) then (if (ji26) ≤ t147 then (if t147 ≤ (a0.size : Int) then ((topiaryref12_find.f kj13 (a0.extract ((ji26) : Int).toNat (t147 : Int).toNat) 0 (⟨#[60]⟩ : ByteArray)).bind fun t148 => (if t148 ≥ 0 then (some (0, 0, 0, (⟨#[]⟩ : ByteArray), (⟨#[]⟩ : ByteArray), false)) else ((topiaryref12_decoded.f kj13 (a0.extract ((ji26) : Int).toNat (t147 : Int).toNat)).bind fun bt149 => (if 0 ≤ t140 then (if t140 ≤ t141 then (if t141 ≤ (a0.size : Int) then (some (2, t140, wrap64 (t147 + 1), a0.extract (t140 : Int).toNat (t141 : Int).toNat, bt149.1, bt149.2)) else (none)) else (none)) else (none))))) else (none)) else (none)) else (none)) = some (r1, r2, r3, r4, r5, r6) := by first | (rw [hji26] at H; exact H) | (simp only [hji26] at H ⊢; exact H)
            (try rw [hji26] at c21b0)
            (try rw [hji26] at c21b1)
            (try rw [hji26] at c21)
            (try rw [hji26] at c22b0)
            (try rw [hji26] at c22b1)
            (try rw [hji26] at c22)
            (try rw [hji26] at A23)
            have hji26w : (IntKind.i64.wrap (t144 + 1)) = ji26 := (i64_w _).trans hji26
            by_cases c27 : 0 ≤ (ji26)
            ·rw [if_pos c27] at H
             have c27b0 := eq_true c27
             have c27b1 : decide (0 ≤ (ji26)) = true := decide_eq_true c27
             clear c27
             by_cases c28 : (ji26) ≤ t147
             ·rw [if_pos c28] at H
              have c28b0 := eq_true c28
              have c28b1 : decide ((ji26) ≤ t147) = true := decide_eq_true c28
              clear c28
              by_cases c29 : t147 ≤ (a0.size : Int)
              ·rw [if_pos c29] at H
               have c29b0 := eq_true c29
               have c29b1 : decide (t147 ≤ (a0.size : Int)) = true := decide_eq_true c29
               clear c29
               replace H := Option.bind_eq_some_iff.mp H
               obtain ⟨t148, A300, H⟩ := H
               try dsimp only at H
               have A30 := Aside0.mk A300
               clear A300
               by_cases c31 : t148 ≥ 0
               ·rw [if_pos c31] at H
                have c31b0 : decide (0 ≤ t148) = true := decide_eq_true c31
                clear c31
                simp only [Option.some.injEq, Prod.mk.injEq] at H
                obtain ⟨rfl, rfl, rfl, rfl, rfl, rfl⟩ := H
                go_wp2_with (first | ((with_reducible refine gate_callee (f := 49) rfl ?_); refine goesL_ (some 60) rfl rfl Try.func49 (by kernel_rfl) rfl #[.string a0, .int .i64 ji26, .string (a0.extract (t144 : Int).toNat ((ji26) : Int).toNat)] rfl (by (try simp only [List.map_toArray, List.map_cons, List.map_nil]); first | done | (simp only [hji26]; rfl) | rfl | (simp only [List.length_drop, List.length_take]; rfl)) ?_; (with_reducible refine (topiaryref12_find.calls kj13 a0 ji26 (a0.extract (t144 : Int).toNat ((ji26) : Int).toNat) t147 _ A23.out).mono ?_); rintro e w' ⟨rfl, ⟨nd, rfl⟩⟩; refine ⟨_, rfl, ?_⟩; (try (rw [drewN_self wc]; generalize hq_ : World.drewN wc _ = wc; have n0_ : Aside0 (wc.heap[gb139]? = some (.cells #[.int .i64 0, .int .i64 0, .int .i64 0, .string (⟨#[]⟩ : ByteArray), .string (⟨#[]⟩ : ByteArray)] 71 (0, 0))) := ⟨by rw [← hq_]; exact (bk_ BK139.out)⟩; have n1_ : Aside0 (Below w.heap.size w wc) := ⟨by rw [← hq_]; exact (bs_ HB.out GE139.out)⟩; clear BK139 HB hq_; have BK139 := n0_; have HB := n1_; clear n0_ n1_))) | ((with_reducible refine gate_callee (f := 49) rfl ?_); refine goesL_ (some 70) rfl rfl Try.func49 (by kernel_rfl) rfl #[.string (a0.extract ((ji26) : Int).toNat (t147 : Int).toNat), .int .i64 0, .string (⟨#[60]⟩ : ByteArray)] rfl (by (try simp only [List.map_toArray, List.map_cons, List.map_nil]); first | done | (simp only [hji26]; rfl) | rfl | (simp only [List.length_drop, List.length_take]; rfl)) ?_; (with_reducible refine (topiaryref12_find.calls kj13 (a0.extract ((ji26) : Int).toNat (t147 : Int).toNat) 0 (⟨#[60]⟩ : ByteArray) t148 _ A30.out).mono ?_); rintro e w' ⟨rfl, ⟨nd, rfl⟩⟩; refine ⟨_, rfl, ?_⟩; (try (rw [drewN_self wc]; generalize hq_ : World.drewN wc _ = wc; have n0_ : Aside0 (wc.heap[gb139]? = some (.cells #[.int .i64 0, .int .i64 0, .int .i64 0, .string (⟨#[]⟩ : ByteArray), .string (⟨#[]⟩ : ByteArray)] 71 (0, 0))) := ⟨by rw [← hq_]; exact (bk_ BK139.out)⟩; have n1_ : Aside0 (Below w.heap.size w wc) := ⟨by rw [← hq_]; exact (bs_ HB.out GE139.out)⟩; clear BK139 HB hq_; have BK139 := n0_; have HB := n1_; clear n0_ n1_)); have hcz32_0 : wc.cell? ⟨gb139, 0, none⟩ = some (.int .i64 0) := (blk_cell BK139.out 0).trans rfl; have hcz32_1 : wc.cell? ⟨gb139, 1, none⟩ = some (.int .i64 0) := (blk_cell BK139.out 1).trans rfl; have hcz32_2 : wc.cell? ⟨gb139, 2, none⟩ = some (.int .i64 0) := (blk_cell BK139.out 2).trans rfl; have hcz32_3 : wc.cell? ⟨gb139, 3, none⟩ = some (.string (⟨#[]⟩ : ByteArray)) := (blk_cell BK139.out 3).trans rfl; have hcz32_4 : wc.cell? ⟨gb139, 4, none⟩ = some (.string (⟨#[]⟩ : ByteArray)) := (blk_cell BK139.out 4).trans rfl; have hfz32_0 := blk_frozen BK139.out 0; have hfz32_1 := blk_frozen BK139.out 1; have hfz32_2 := blk_frozen BK139.out 2; have hfz32_3 := blk_frozen BK139.out 3; have hfz32_4 := blk_frozen BK139.out 4))
                refine bodyPost_ret (results_ct rfl _ _ gb139 71 #[.int .i64 0, .int .i64 0, .int .i64 0, .string (⟨#[]⟩ : ByteArray), .string (⟨#[]⟩ : ByteArray)] (0, 0) _ rfl (by (with_reducible repeat (first | refine blk_drewN ?_ _ | refine blk_drew ?_ | refine blk_alloc ?_ _)); refine blk_put (cs := #[.int .i64 0, .int .i64 0, .int .i64 0, .string (⟨#[]⟩ : ByteArray), .string (⟨#[]⟩ : ByteArray)]) ?_ 4 _ rfl; (with_reducible repeat (first | refine blk_drewN ?_ _ | refine blk_drew ?_ | refine blk_alloc ?_ _)); refine blk_put (cs := #[.int .i64 0, .int .i64 0, .int .i64 0, .string (⟨#[]⟩ : ByteArray), .string (⟨#[]⟩ : ByteArray)]) ?_ 3 _ rfl; (with_reducible repeat (first | refine blk_drewN ?_ _ | refine blk_drew ?_ | refine blk_alloc ?_ _)); refine blk_put (cs := #[.int .i64 0, .int .i64 0, .int .i64 0, .string (⟨#[]⟩ : ByteArray), .string (⟨#[]⟩ : ByteArray)]) ?_ 2 _ rfl; (with_reducible repeat (first | refine blk_drewN ?_ _ | refine blk_drew ?_ | refine blk_alloc ?_ _)); refine blk_put (cs := #[.int .i64 0, .int .i64 0, .int .i64 0, .string (⟨#[]⟩ : ByteArray), .string (⟨#[]⟩ : ByteArray)]) ?_ 1 _ rfl; (with_reducible repeat (first | refine blk_drewN ?_ _ | refine blk_drew ?_ | refine blk_alloc ?_ _)); refine blk_put (cs := #[.int .i64 0, .int .i64 0, .int .i64 0, .string (⟨#[]⟩ : ByteArray), .string (⟨#[]⟩ : ByteArray)]) ?_ 0 _ rfl; exact bk_ BK139.out) Try.underlying71 rfl (by kernel_rfl)) rfl ?_
                exact ⟨by first | rfl | (simp [errW_none, errW_some] <;> rfl) | (simp only [← hji26]; first | rfl | (simp [errW_none, errW_some] <;> rfl)) | (simp [*, errW_none, errW_some] <;> rfl), bs_ HB.out GE139.out⟩
               ·rw [if_neg c31] at H
                have c31b0 : decide (0 ≤ t148) = false := decide_eq_false c31
                clear c31
                replace H := Option.bind_eq_some_iff.mp H
                obtain ⟨⟨t149, t150⟩, A330, H⟩ := H
                try dsimp only at H
                have A33 := Aside0.mk A330
                clear A330
                by_cases c34 : 0 ≤ t140
                ·rw [if_pos c34] at H
                 have c34b0 := eq_true c34
                 have c34b1 : decide (0 ≤ t140) = true := decide_eq_true c34
                 clear c34
                 by_cases c35 : t140 ≤ t141
                 ·rw [if_pos c35] at H
                  have c35b0 := eq_true c35
                  have c35b1 : decide (t140 ≤ t141) = true := decide_eq_true c35
                  clear c35
                  by_cases c36 : t141 ≤ (a0.size : Int)
                  ·rw [if_pos c36] at H
                   have c36b0 := eq_true c36
                   have c36b1 : decide (t141 ≤ (a0.size : Int)) = true := decide_eq_true c36
                   clear c36
                   simp only [Option.some.injEq, Prod.mk.injEq] at H
                   obtain ⟨rfl, rfl, rfl, rfl, rfl, rfl⟩ := H
                   go_wp2_with (first | ((with_reducible refine gate_callee (f := 49) rfl ?_); refine goesL_ (some 60) rfl rfl Try.func49 (by kernel_rfl) rfl #[.string a0, .int .i64 ji26, .string (a0.extract (t144 : Int).toNat ((ji26) : Int).toNat)] rfl (by (try simp only [List.map_toArray, List.map_cons, List.map_nil]); first | done | (simp only [hji26]; rfl) | rfl | (simp only [List.length_drop, List.length_take]; rfl)) ?_; (with_reducible refine (topiaryref12_find.calls kj13 a0 ji26 (a0.extract (t144 : Int).toNat ((ji26) : Int).toNat) t147 _ A23.out).mono ?_); rintro e w' ⟨rfl, ⟨nd, rfl⟩⟩; refine ⟨_, rfl, ?_⟩; (try (rw [drewN_self wc]; generalize hq_ : World.drewN wc _ = wc; have n0_ : Aside0 (wc.heap[gb139]? = some (.cells #[.int .i64 0, .int .i64 0, .int .i64 0, .string (⟨#[]⟩ : ByteArray), .string (⟨#[]⟩ : ByteArray)] 71 (0, 0))) := ⟨by rw [← hq_]; exact (bk_ BK139.out)⟩; have n1_ : Aside0 (Below w.heap.size w wc) := ⟨by rw [← hq_]; exact (bs_ HB.out GE139.out)⟩; clear BK139 HB hq_; have BK139 := n0_; have HB := n1_; clear n0_ n1_))) | ((with_reducible refine gate_callee (f := 49) rfl ?_); refine goesL_ (some 70) rfl rfl Try.func49 (by kernel_rfl) rfl #[.string (a0.extract ((ji26) : Int).toNat (t147 : Int).toNat), .int .i64 0, .string (⟨#[60]⟩ : ByteArray)] rfl (by (try simp only [List.map_toArray, List.map_cons, List.map_nil]); first | done | (simp only [hji26]; rfl) | rfl | (simp only [List.length_drop, List.length_take]; rfl)) ?_; (with_reducible refine (topiaryref12_find.calls kj13 (a0.extract ((ji26) : Int).toNat (t147 : Int).toNat) 0 (⟨#[60]⟩ : ByteArray) t148 _ A30.out).mono ?_); rintro e w' ⟨rfl, ⟨nd, rfl⟩⟩; refine ⟨_, rfl, ?_⟩; (try (rw [drewN_self wc]; generalize hq_ : World.drewN wc _ = wc; have n0_ : Aside0 (wc.heap[gb139]? = some (.cells #[.int .i64 0, .int .i64 0, .int .i64 0, .string (⟨#[]⟩ : ByteArray), .string (⟨#[]⟩ : ByteArray)] 71 (0, 0))) := ⟨by rw [← hq_]; exact (bk_ BK139.out)⟩; have n1_ : Aside0 (Below w.heap.size w wc) := ⟨by rw [← hq_]; exact (bs_ HB.out GE139.out)⟩; clear BK139 HB hq_; have BK139 := n0_; have HB := n1_; clear n0_ n1_))) | ((with_reducible refine gate_callee (f := 52) rfl ?_); refine goesL_ (some 75) rfl rfl Try.func52 (by kernel_rfl) rfl #[.string (a0.extract ((ji26) : Int).toNat (t147 : Int).toNat)] rfl (by (try simp only [List.map_toArray, List.map_cons, List.map_nil]); first | done | (simp only [hji26]; rfl) | rfl | (simp only [List.length_drop, List.length_take]; rfl)) ?_; (with_reducible refine (topiaryref12_decoded.calls kj13 (a0.extract ((ji26) : Int).toNat (t147 : Int).toNat) t149 t150 _ A33.out).mono ?_); rintro e w37 ⟨rfl, hb⟩; refine ⟨_, rfl, ?_⟩; have n0_ := Aside0.mk (blk_below (g := gb139) (o := .cells #[.int .i64 0, .int .i64 0, .int .i64 0, .string (⟨#[]⟩ : ByteArray), .string (⟨#[]⟩ : ByteArray)] 71 (0, 0)) (bk_ BK139.out) hb); have n1_ := Aside0.mk (below_step (bs_ HB.out GE139.out) hb); clear BK139; clear HB; have BK139 := n0_; have HB := n1_; clear n0_ n1_; (try clear hb); (try clear hb2); (try clear hk); (try clear hi); have hcz38_0 : w37.cell? ⟨gb139, 0, none⟩ = some (.int .i64 0) := (blk_cell BK139.out 0).trans rfl; have hcz38_1 : w37.cell? ⟨gb139, 1, none⟩ = some (.int .i64 0) := (blk_cell BK139.out 1).trans rfl; have hcz38_2 : w37.cell? ⟨gb139, 2, none⟩ = some (.int .i64 0) := (blk_cell BK139.out 2).trans rfl; have hcz38_3 : w37.cell? ⟨gb139, 3, none⟩ = some (.string (⟨#[]⟩ : ByteArray)) := (blk_cell BK139.out 3).trans rfl; have hcz38_4 : w37.cell? ⟨gb139, 4, none⟩ = some (.string (⟨#[]⟩ : ByteArray)) := (blk_cell BK139.out 4).trans rfl; have hfz38_0 := blk_frozen BK139.out 0; have hfz38_1 := blk_frozen BK139.out 1; have hfz38_2 := blk_frozen BK139.out 2; have hfz38_3 := blk_frozen BK139.out 3; have hfz38_4 := blk_frozen BK139.out 4))
                   refine bodyPost_ret (results_ct rfl _ _ gb139 71 #[.int .i64 2, .int .i64 t140, .int .i64 (wrap64 (t147 + 1)), .string (a0.extract (t140 : Int).toNat (t141 : Int).toNat), .string t149] (0, 0) _ rfl (by (with_reducible repeat (first | refine blk_drewN ?_ _ | refine blk_drew ?_ | refine blk_alloc ?_ _)); refine blk_put (cs := #[.int .i64 2, .int .i64 t140, .int .i64 (wrap64 (t147 + 1)), .string (a0.extract (t140 : Int).toNat (t141 : Int).toNat), .string (⟨#[]⟩ : ByteArray)]) ?_ 4 _ rfl; (with_reducible repeat (first | refine blk_drewN ?_ _ | refine blk_drew ?_ | refine blk_alloc ?_ _)); refine blk_put (cs := #[.int .i64 2, .int .i64 t140, .int .i64 (wrap64 (t147 + 1)), .string (⟨#[]⟩ : ByteArray), .string (⟨#[]⟩ : ByteArray)]) ?_ 3 _ rfl; (with_reducible repeat (first | refine blk_drewN ?_ _ | refine blk_drew ?_ | refine blk_alloc ?_ _)); refine blk_put (cs := #[.int .i64 2, .int .i64 t140, .int .i64 0, .string (⟨#[]⟩ : ByteArray), .string (⟨#[]⟩ : ByteArray)]) ?_ 2 _ rfl; (with_reducible repeat (first | refine blk_drewN ?_ _ | refine blk_drew ?_ | refine blk_alloc ?_ _)); refine blk_put (cs := #[.int .i64 2, .int .i64 0, .int .i64 0, .string (⟨#[]⟩ : ByteArray), .string (⟨#[]⟩ : ByteArray)]) ?_ 1 _ rfl; (with_reducible repeat (first | refine blk_drewN ?_ _ | refine blk_drew ?_ | refine blk_alloc ?_ _)); refine blk_put (cs := #[.int .i64 0, .int .i64 0, .int .i64 0, .string (⟨#[]⟩ : ByteArray), .string (⟨#[]⟩ : ByteArray)]) ?_ 0 _ rfl; exact bk_ BK139.out) Try.underlying71 rfl (by kernel_rfl)) rfl ?_
                   exact ⟨by first | rfl | (simp [errW_none, errW_some] <;> rfl) | (simp only [← hji26]; first | rfl | (simp [errW_none, errW_some] <;> rfl)) | (simp [*, errW_none, errW_some] <;> rfl), bs_ HB.out GE139.out⟩
                  ·rw [if_neg c36] at H
                   exact absurd H (by simp)
                 ·rw [if_neg c35] at H
                  exact absurd H (by simp)
                ·rw [if_neg c34] at H
                 exact absurd H (by simp)
              ·rw [if_neg c29] at H
               exact absurd H (by simp)
             ·rw [if_neg c28] at H
              exact absurd H (by simp)
            ·rw [if_neg c27] at H
             exact absurd H (by simp)
          ·rw [if_neg c22] at H
           exact absurd H (by simp)
         ·rw [if_neg c21] at H
          exact absurd H (by simp)
        ·rw [if_neg c20] at H
         exact absurd H (by simp)
    ·replace c12 := Bool.eq_false_iff.mpr c12
     subst c12
     rw [if_neg (show ¬ (false = true) by decide)] at H
     have H1 := H
     clear H
     have H := H1
     clear H1
     simp only [Option.some.injEq, Prod.mk.injEq] at H
     obtain ⟨rfl, rfl, rfl, rfl, rfl, rfl⟩ := H
     go_wp2_with (first | ((with_reducible refine gate_callee (f := 43) rfl ?_); refine goesL_ (some 31) rfl rfl Try.func43 (by kernel_rfl) rfl #[.string a0, .int .i64 t141] rfl ar_ ?_; (with_reducible refine (topiaryref11_Skip.calls kj4 a0 t141 t142 _ A10.out).mono ?_); rintro e w' ⟨rfl, ⟨nd, rfl⟩⟩; refine ⟨_, rfl, ?_⟩; (try (rw [drewN_self wc]; generalize hq_ : World.drewN wc _ = wc; have n0_ : Aside0 (wc.heap[gb139]? = some (.cells #[.int .i64 0, .int .i64 0, .int .i64 0, .string (⟨#[]⟩ : ByteArray), .string (⟨#[]⟩ : ByteArray)] 71 (0, 0))) := ⟨by rw [← hq_]; exact (bk_ BK139.out)⟩; have n1_ : Aside0 (Below w.heap.size w wc) := ⟨by rw [← hq_]; exact (bs_ HB.out GE139.out)⟩; clear BK139 HB hq_; have BK139 := n0_; have HB := n1_; clear n0_ n1_))) | ((with_reducible refine gate_callee (f := 48) rfl ?_); refine goesL_ (some 34) rfl rfl Try.func48 (by kernel_rfl) rfl #[.string a0, .int .i64 t142, .string (⟨#[61]⟩ : ByteArray)] rfl ar_ ?_; (with_reducible refine (topiaryref12_begins.calls a0 t142 (⟨#[61]⟩ : ByteArray) false _ A11.out).mono ?_); rintro e w' ⟨rfl, ⟨nd, rfl⟩⟩; refine ⟨_, rfl, ?_⟩; (try (rw [drewN_self wc]; generalize hq_ : World.drewN wc _ = wc; have n0_ : Aside0 (wc.heap[gb139]? = some (.cells #[.int .i64 0, .int .i64 0, .int .i64 0, .string (⟨#[]⟩ : ByteArray), .string (⟨#[]⟩ : ByteArray)] 71 (0, 0))) := ⟨by rw [← hq_]; exact (bk_ BK139.out)⟩; have n1_ : Aside0 (Below w.heap.size w wc) := ⟨by rw [← hq_]; exact (bs_ HB.out GE139.out)⟩; clear BK139 HB hq_; have BK139 := n0_; have HB := n1_; clear n0_ n1_)); have hcz39_0 : wc.cell? ⟨gb139, 0, none⟩ = some (.int .i64 0) := (blk_cell BK139.out 0).trans rfl; have hcz39_1 : wc.cell? ⟨gb139, 1, none⟩ = some (.int .i64 0) := (blk_cell BK139.out 1).trans rfl; have hcz39_2 : wc.cell? ⟨gb139, 2, none⟩ = some (.int .i64 0) := (blk_cell BK139.out 2).trans rfl; have hcz39_3 : wc.cell? ⟨gb139, 3, none⟩ = some (.string (⟨#[]⟩ : ByteArray)) := (blk_cell BK139.out 3).trans rfl; have hcz39_4 : wc.cell? ⟨gb139, 4, none⟩ = some (.string (⟨#[]⟩ : ByteArray)) := (blk_cell BK139.out 4).trans rfl; have hfz39_0 := blk_frozen BK139.out 0; have hfz39_1 := blk_frozen BK139.out 1; have hfz39_2 := blk_frozen BK139.out 2; have hfz39_3 := blk_frozen BK139.out 3; have hfz39_4 := blk_frozen BK139.out 4))
     refine bodyPost_ret (results_ct rfl _ _ gb139 71 #[.int .i64 0, .int .i64 0, .int .i64 0, .string (⟨#[]⟩ : ByteArray), .string (⟨#[]⟩ : ByteArray)] (0, 0) _ rfl (by (with_reducible repeat (first | refine blk_drewN ?_ _ | refine blk_drew ?_ | refine blk_alloc ?_ _)); refine blk_put (cs := #[.int .i64 0, .int .i64 0, .int .i64 0, .string (⟨#[]⟩ : ByteArray), .string (⟨#[]⟩ : ByteArray)]) ?_ 4 _ rfl; (with_reducible repeat (first | refine blk_drewN ?_ _ | refine blk_drew ?_ | refine blk_alloc ?_ _)); refine blk_put (cs := #[.int .i64 0, .int .i64 0, .int .i64 0, .string (⟨#[]⟩ : ByteArray), .string (⟨#[]⟩ : ByteArray)]) ?_ 3 _ rfl; (with_reducible repeat (first | refine blk_drewN ?_ _ | refine blk_drew ?_ | refine blk_alloc ?_ _)); refine blk_put (cs := #[.int .i64 0, .int .i64 0, .int .i64 0, .string (⟨#[]⟩ : ByteArray), .string (⟨#[]⟩ : ByteArray)]) ?_ 2 _ rfl; (with_reducible repeat (first | refine blk_drewN ?_ _ | refine blk_drew ?_ | refine blk_alloc ?_ _)); refine blk_put (cs := #[.int .i64 0, .int .i64 0, .int .i64 0, .string (⟨#[]⟩ : ByteArray), .string (⟨#[]⟩ : ByteArray)]) ?_ 1 _ rfl; (with_reducible repeat (first | refine blk_drewN ?_ _ | refine blk_drew ?_ | refine blk_alloc ?_ _)); refine blk_put (cs := #[.int .i64 0, .int .i64 0, .int .i64 0, .string (⟨#[]⟩ : ByteArray), .string (⟨#[]⟩ : ByteArray)]) ?_ 0 _ rfl; exact bk_ BK139.out) Try.underlying71 rfl (by kernel_rfl)) rfl ?_
     exact ⟨by first | rfl | (simp [errW_none, errW_some] <;> rfl) | (simp [*, errW_none, errW_some] <;> rfl), bs_ HB.out GE139.out⟩
end Go.Proofs.Ytoanmoddppmffaa.T
