/- The program's Write, and Check. -/
import Derived.Test.YtoanmoddppmffaaGreatDoorXFh
import Derived.Test.YtoanmoddppmffaaGreatDoorXSf
import Derived.Test.YtoanmoddppmffaaGreatDoorXRj
import Derived.Test.YtoanmoddppmffaaGreatDoorXQo
namespace Go.Proofs.YtoanmoddppmffaaGreatDoor.T
open Go.RowKit Go.Shelf Go.Proofs.YtoanmoddppmffaaGreatDoorW.PrintWords
set_option linter.unusedVariables false
set_option linter.unusedSimpArgs false
theorem writer_all (n : Nat) : WPathC n ∧ WHeldC n ∧ WPredC n ∧ WStepC n := by
  induction n using Nat.strongRecOn with
  | _ n ih =>
    have h1 := wPath_any n (fun m hm => (ih m hm).2.2.2)
    have h2 := wHeld_any n h1 (fun m hm => (ih m hm).2.1)
    exact ⟨h1, h2, wPred_any n h2, wStep_any n (fun m hm => (ih m hm).2.2.1)⟩
theorem parse_long (q : ByteArray) (w : World) (hl : q.size > 300) : Calls Tryz.prog 11 #[.string q] w (ParsePost none w) := by
  have hb : decide ((300 : Int) < (q.size : Int)) = true := decide_eq_true (by omega)
  go_enter Tryz.func11, Tryz.ntmps11
  go_wp2
  go_ret2
  exact ⟨Below.refl _ _, rfl⟩
theorem parseQ_long {q : ByteArray} (hl : q.size > 300) : parseQ q = none := by
  have := parseQ_eq q
  unfold parseG at this
  rw [if_pos hl] at this
  exact (Option.some.inj this).symm
theorem parse_every (q : ByteArray) (w : World) (hV : Vr w) (hw : 4 < w.heap.size) : Calls Tryz.prog 11 #[.string q] w (ParsePost (parseQ q) w) := by
  by_cases hl : q.size > 300
  · rw [parseQ_long hl]; exact parse_long q w hl
  · exact parse_any q 5000 (parseQ q) w (by decide) (parseQ_eq q) hV hw (by omega)
noncomputable def writeQ (l : List Step) : Option ByteArray :=
  if (pathT true l).2 = true then (match parseQ (pathT true l).1 with | some m => if eqB l m = true then some (pathT true l).1 else none | none => none) else none
def writeV (r : Option ByteArray) : Value := match r with | some t => .tuple #[.string t, .int .i64 0] | none => .tuple #[.string ⟨#[]⟩, .int .i64 1]
def WritePost (r : Option ByteArray) (w : World) (e : Ending) (w' : World) : Prop := e = .returned (writeV r) ∧ Below w.heap.size w w'
structure St (w : World) : Prop where
  vr : Vr w
  er : 4 < w.heap.size
  tb : Tb w
  tg : 5 < w.heap.size
theorem St.below {w w' : World} (h : St w) (hb : Below w.heap.size w w') : St w' :=
  ⟨h.vr.below hb, Nat.lt_of_lt_of_le h.er hb.size, h.tb.heap_ (hb.block _ h.tg), Nat.lt_of_lt_of_le h.tg hb.size⟩
set_option maxHeartbeats 4000000 in
set_option maxRecDepth 100000 in
theorem write_any {ok : Nat → Prop} (w : World) (v : Value) (l : List Step) (hl : StepsR ok w v l) (hS : St w) (hn : nmSs l) (hz : (pathT true l).1.size ≤ szMax) : Calls Tryz.prog 8 #[v] w (WritePost (writeQ l) w) := by
  obtain ⟨n, hl'⟩ := hl.bound
  obtain ⟨A, c, rfl, hc1, hc2⟩ := hl'.slice
  have HS := Aside0.mk hS
  have hbA : Below w.heap.size w (w.alloc (.cells #[.bool false] 45)) := below_alloc (Below.refl _ _) _
  have hn0 : (w.alloc (.cells #[.bool false] 45)).heap[w.heap.size]? = some (wrO false) := blk_new _ _
  have hsA : (w.alloc (.cells #[.bool false] 45)).heap.size = w.heap.size + 1 := by simp
  generalize hw1 : w.alloc (.cells #[.bool false] 45) = w1 at hbA hn0 hsA
  have hcall := (writer_all n).1 (fun k => (ok k ∧ k < w.heap.size) ∧ k < w.heap.size) w.heap.size false true w1 A c l (stepsAt_below hl' hbA) ⟨hn0, (hS.below hbA).tb, by have := hS.tg; omega, fun k hk => by have := hk.2; omega⟩ hn hz
  have HL := Aside0.mk hl
  have HBA := Aside0.mk hbA
  obtain ⟨T, hT⟩ : ∃ T, T = pathT true l := ⟨_, rfl⟩
  have HW : Aside0 (writeQ l = if T.2 = true then (match parseQ T.1 with | some m => if eqB l m = true then some T.1 else none | none => none) else none) := ⟨by rw [hT]; rfl⟩
  rw [← hT] at hcall
  clear hl hl' hS hn hz hbA hn0 hT
  go_enter Tryz.func8, Tryz.ntmps8
  go_wp2_with fail
  go_at_call 15
  refine hcall.mono ?_
  rintro e w2 ⟨rfl, h2, h3⟩
  rw [Bool.false_or] at h2
  have hb2 : Below w.heap.size w w2 := ⟨h3.os.trans HBA.out.os, h3.tape.trans HBA.out.tape, h3.output.trans HBA.out.output, Nat.le_trans HBA.out.size h3.size, fun i hi => (h3.block i (by omega) (fun e => by injection e with e; omega)).trans (HBA.out.block i hi)⟩
  have z0 : w2.cell? ⟨w.heap.size, 0, none⟩ = some (.bool (!T.2)) := (blk_cell h2 0).trans rfl
  have HB2 := Aside0.mk hb2
  clear hcall h2 h3 hb2 hw1
  cases hok : T.2 with
  | false =>
    rw [hok] at z0
    have HR : Aside0 (writeQ l = none) := ⟨by rw [HW.out, if_neg (by simp [hok])]⟩
    clear HW
    go_wp2
    go_ret2
    exact ⟨by rw [HR.out]; rfl, HB2.out⟩
  | true =>
    rw [hok] at z0
    have hS2 := HS.out.below HB2.out
    have hp := parse_every T.1 w2 hS2.vr hS2.er
    have HOK := Aside0.mk hok
    clear hS2 hok
    cases hq : parseQ T.1 with
    | none =>
      rw [hq] at hp
      have HR : Aside0 (writeQ l = none) := ⟨by rw [HW.out, if_pos HOK.out, hq]⟩
      clear HW hq
      go_wp2_with fail
      go_at_call 11
      refine hp.mono ?_
      rintro e w3 ⟨hb3, rfl⟩
      have HB3 := Aside0.mk (below_step HB2.out hb3)
      clear hp hb3 z0
      go_wp2
      go_ret2
      exact ⟨by rw [HR.out]; rfl, HB3.out⟩
    | some m =>
      rw [hq] at hp
      have HQ := Aside0.mk hq
      clear hq
      go_wp2_with fail
      go_at_call 11
      refine hp.mono ?_
      rintro e w3 ⟨hb3, A3, c3, rfl, hc3, hm3⟩
      have HB3 := Aside0.mk (below_step HB2.out hb3)
      have hsame := same_any (HL.out.below HB3.out) hm3
      clear hp hb3 z0 hm3
      go_wp2_with fail
      go_at_call 16
      refine hsame.mono ?_
      rintro e w4 ⟨rfl, hb4⟩
      have HB4 := Aside0.mk (below_step HB3.out hb4)
      clear hsame hb4
      cases heq : eqB l m with
      | true =>
        have HR : Aside0 (writeQ l = some T.1) := ⟨by rw [HW.out, if_pos HOK.out, HQ.out]; simp only; rw [if_pos heq]⟩
        clear HW heq
        go_wp2
        go_ret2
        exact ⟨by rw [HR.out]; rfl, HB4.out⟩
      | false =>
        have HR : Aside0 (writeQ l = none) := ⟨by rw [HW.out, if_pos HOK.out, HQ.out]; simp only; rw [if_neg (by simp [heq])]⟩
        clear HW heq
        go_wp2
        go_ret2
        exact ⟨by rw [HR.out]; rfl, HB4.out⟩
def codeOf (r : Option ByteArray) : Int := match r with | some _ => 0 | none => 1
set_option maxHeartbeats 4000000 in
set_option maxRecDepth 100000 in
theorem check_any {ok : Nat → Prop} (w : World) (v : Value) (l : List Step) (hl : StepsR ok w v l) (hS : St w) (hn : nmSs l) (hz : (pathT true l).1.size ≤ szMax) : Calls Tryz.prog 10 #[v] w fun e w' => e = .returned (.int .i64 (codeOf (writeQ l))) ∧ Below w.heap.size w w' := by
  have hcall := write_any w v l hl hS hn hz
  obtain ⟨n, hl'⟩ := hl
  obtain ⟨A, c, rfl, hc1, hc2⟩ := hl'.slice
  generalize writeQ l = r at hcall ⊢
  clear hl' hS hn hz
  go_enter Tryz.func10, Tryz.ntmps10
  go_wp2_with fail
  go_at_call 8
  refine hcall.mono ?_
  rintro e w1 ⟨rfl, hb⟩
  have HB := Aside0.mk hb
  clear hcall hb
  cases r with
  | some t =>
    unfold writeV
    go_wp2
    go_ret
    exact ⟨rfl, HB.out⟩
  | none =>
    unfold writeV
    go_wp2
    go_ret
    exact ⟨rfl, HB.out⟩
end Go.Proofs.YtoanmoddppmffaaGreatDoor.T
namespace Go.Proofs.YtoanmoddppmffaaGreatDoor.T
open Go.RowKit Go.Shelf
set_option linter.unusedVariables false
set_option maxRecDepth 100000
theorem tTab : (Tryz.prog.globals[5]?).map (·.type) = some 144 := by kernel_rfl
theorem cTab1 : Tryz.prog.cellsOf 125 = 1 := by kernel_rfl
theorem cTab2 : Tryz.prog.cellsOf 144 = 20 := by kernel_rfl
theorem dTab : (Rows.laid_internal_strconv_uint64pow10 : DataW Unit) = Lib.tabData .u64 Lib.pow10Tab := by kernel_rfl
theorem st_of_laid {l : List (String × DataW Unit)} {W : World} (hL : laidMetH Tryz.prog l W) (hp : l.drop 4 = ("strconv.ErrRange", Rows.laid_strconv_ErrRange) :: l.drop 5) (hq : l.drop 2 = ("internal/strconv.uint64pow10", Rows.laid_internal_strconv_uint64pow10) :: l.drop 3)
    (hpl : laidMetH Tryz.prog l W = laidMet Tryz.prog l W) : St W := by
  obtain ⟨h1, h2⟩ := vr_of_laid hL hp hpl
  rw [hpl] at hL
  have h3 := laid_at hL 2
  rw [hq, dTab] at h3
  have ht : Tb W := Lib.tabIs_of_head gTab tTab Tryz.underlying144 Tryz.underlying125 cTab1 cTab2 h3
  have hc := Lib.TabIs.cell ht gTab 0 (by decide)
  exact ⟨h1, h2, ht, World.block_lt_of_cell? _ _ hc⟩
end Go.Proofs.YtoanmoddppmffaaGreatDoor.T
