/- The reference: steps written out. -/
import Derived.Test.YtoanmoddppmffaaGreatDoorXGa
import Derived.Test.YtoanmoddppmffaaGreatDoorXFh
import Derived.Test.YtoanmoddppmffaaGreatDoorXRa
namespace Go.Proofs.YtoanmoddppmffaaGreatDoor.T
open Go.RowKit Go.Shelf Go.Proofs.YtoanmoddppmffaaGreatDoorW.PrintWords
set_option linter.unusedVariables false
set_option linter.unusedSimpArgs false
def RWPost (r : Wr) (w : World) (e : Ending) (w' : World) : Prop := ∃ t : ByteArray, e = .returned (.tuple #[.string t, .bool r.2]) ∧ (r.2 = true → t = r.1) ∧ t.size ≤ r.1.size ∧ Below w.heap.size w w'
def RWStepsC (n : Nat) : Prop := ∀ (ok : Nat → Prop) (f : Bool) (w : World) (A : Option Addr) (c : Nat) (l : List Step), SlAt (stepR ok w n) ok w (.slice A l.length c) l → nmSs l → (pathT f l).1.size ≤ szMax →
  Calls Tryz.prog 17 #[.slice A l.length c, .bool f] w (RWPost (pathT f l) w)
def RWHeldC (n : Nat) : Prop := ∀ (ok : Nat → Prop) (w : World) (A B : Option Addr) (c d : Nat) (p : Pred), SlAt (stepR ok w n) ok w (.slice A p.path.length c) p.path → SlAt (predR ok w n) ok w (.slice B p.args.length d) p.args → nmP p → (heldT p).1.size ≤ szMax →
  Calls Tryz.prog 49 #[.agg #[.int .i64 p.kind, .int .i64 p.n, .slice A p.path.length c, .slice B p.args.length d]] w (RWPost (heldT p) w)
def RWStepC (n : Nat) : Prop := ∀ (ok : Nat → Prop) (w : World) (A : Option Addr) (c : Nat) (s : Step), SlAt (predR ok w n) ok w (.slice A s.preds.length c) s.preds → nmS s → (stepT s).1.size ≤ szMax →
  Calls Tryz.prog 30 #[.agg #[.bool s.deep, .int .i64 s.axis, .string s.name, .slice A s.preds.length c]] w (RWPost (stepT s) w)
structure RWPathI (l : List Step) (f : Bool) (w : World) (i : Nat) (t : ByteArray) (wr : World) : Prop where
  le : i ≤ l.length
  txt : t ++ (rowT (f || decide (0 < i)) (l.drop i)).1 = (rowT f l).1
  ok : (rowT (f || decide (0 < i)) (l.drop i)).2 = (rowT f l).2
  bel : Below w.heap.size w wr
set_option maxHeartbeats 4000000 in
set_option maxRecDepth 100000 in
theorem refSteps_any (n : Nat) (IH : ∀ m, m < n → RWStepC m) : RWStepsC n := by
  intro ok f w A c l hl hnm hz
  obtain ⟨hpl1, hpl2⟩ : l.length ≤ c ∧ c ≤ maxLen := by obtain ⟨A', c', e, h1, h2⟩ := hl.slice; injection e with e1 e2 e3; omega
  have hm : (l.length : Int) ≤ 9223372036854775807 := by unfold maxLen at hpl2; omega
  have HST : Aside0 (RWPathI l f w 0 ⟨#[]⟩ w) := ⟨⟨by omega, by rw [nil_app]; simp, by simp, Below.refl _ _⟩⟩
  have HL := Aside0.mk hl
  have HNM := Aside0.mk hnm
  have HZ := Aside0.mk hz
  have HIH := Aside0.mk IH
  clear hl hnm hz IH
  go_enter Tryz.func17, Tryz.ntmps17
  go_wp2
  go_loopg [6, 7] l.length (fun gk ov iv wr => ∃ (i : Nat) (t : ByteArray), iv = .int .i64 i ∧ ov = .string t ∧ l.length - i ≤ gk ∧ Aside0 (RWPathI l f w i t wr))
  case atStart => exact ⟨0, _, rfl, rfl, by omega, HST⟩
  case round =>
    obtain ⟨i, t, rfl, rfl, hgk, HI⟩ := hrel
    have hi0 : (0 : Int) ≤ (i : Int) := by omega
    have hil := HI.out.le
    clear HST
    by_cases hlt : i < l.length
    · have hlt1 : (i : Int) < (l.length : Int) := by omega
      have hpath : pathT f l = rowT f l := by unfold pathT; rw [if_neg (by omega)]
      obtain ⟨x, hxi⟩ : ∃ x, l[i]? = some x := ⟨_, List.getElem?_eq_getElem hlt⟩
      obtain ⟨m, ad, c', u, hn, he, hok, hp, x0, x1, x2, x3⟩ := (stepsAt_below HL.out HI.out.bel).getS hxi
      simp only [Value.slice.injEq, true_and] at he
      obtain ⟨rfl, rfl⟩ := he
      obtain ⟨A1, c1, rfl, hc3, hc4⟩ := hp.slice
      have hdrop : l.drop i = x :: l.drop (i + 1) := by rw [List.drop_eq_getElem_cons hlt]; congr 1; rw [List.getElem?_eq_getElem hlt] at hxi; exact Option.some.inj hxi
      obtain ⟨fi, hfi⟩ : ∃ fi, fi = (f || decide (0 < i)) := ⟨_, rfl⟩
      have htxt := HI.out.txt
      have hok2 := HI.out.ok
      rw [← hfi, hdrop, rowT_cons] at htxt hok2
      have hsz := HZ.out
      rw [hpath, ← htxt] at hsz
      simp only [ByteArray.size_append] at hsz
      unfold szMax at hsz
      have hcall := HIH.out m (by omega) _ wr A1 c1 x hp ((nmSs_iff _).1 HNM.out x (List.mem_of_getElem? hxi)) (by unfold szMax; omega)
      have HX0 := Aside0.mk x0
      have HTX := Aside0.mk htxt
      have HOK := Aside0.mk hok2
      have HP := Aside0.mk hpath
      have HXI := Aside0.mk hxi
      clear htxt hok2 hpath hxi hdrop hp
      go_wp2_with fail
      go_at_call 30
      refine hcall.mono ?_
      rintro e w1 ⟨q, rfl, hq1, hq2, hb1⟩
      have HB := Aside0.mk (below_step HI.out.bel hb1)
      have y0 : w1.cell? (ad.add (i * 4)) = some (.bool x.deep) := pw_cell_below hb1 HX0.out
      cases hst : (stepT x).2 with
      | false =>
        have hr2 : (pathT f l).2 = false := by rw [HP.out, ← HOK.out, hst, Bool.and_false, Bool.false_and]
        have HPO : Aside0 (RWPost (pathT f l) w (.returned (.tuple #[.string ⟨#[]⟩, .bool false])) w1) := ⟨⟨⟨#[]⟩, by rw [hr2], fun h => (by rw [hr2] at h; cases h), Nat.zero_le _, HB.out⟩⟩
        clear hr2
        go_wp2
        go_ret2
        exact HPO.out
      | true =>
        cases f with
        | true =>
          by_cases hz : i = 0
          · have hz' : (i : Int) = 0 := by omega
            have y0 : w1.cell? ad = some (.bool x.deep) := by have := y0; rw [hz] at this; simpa [Addr.add] using this
            cases hd : x.deep with
            | true =>
              rw [hd] at y0
              have hs : sepT fi x.deep = ⟨#[47, 47]⟩ := by rw [hfi]; simp [sepT, hd, tDs]
              have ho : sepOk fi x.deep = true := by rw [hfi]; simp [sepOk, hd, tDs]
              have HNX : Aside0 (RWPathI l true w (i + 1) (t ++ ⟨#[47, 47]⟩ ++ q) w1) := ⟨⟨by omega, by rw [hq1 hst, ← HTX.out, ← hs, show (true || decide (0 < i + 1)) = true by simp]; simp only [ByteArray.append_assoc], by rw [← HOK.out, ho, hst, show (true || decide (0 < i + 1)) = true by simp]; rfl, HB.out⟩⟩
              have hz1 : ¬ 9223372036854775807 < t.size + 2 := by omega
              have hz2 : ¬ 9223372036854775807 < t.size + 2 + q.size := by omega
              clear hs ho hq1 hq2 hcall
              go_wp2
              go_roundg (l.length - (i + 1))
              case measure => omega
              case rel => exact ⟨i + 1, _, (by first | go_num | simp [hz]), rfl, by omega, HNX⟩
            | false =>
              rw [hd] at y0
              have hs : sepT fi x.deep = ⟨#[47]⟩ := by rw [hfi]; simp [sepT, hd, tSl]
              have ho : sepOk fi x.deep = true := by rw [hfi]; simp [sepOk, hd, tSl]
              have HNX : Aside0 (RWPathI l true w (i + 1) (t ++ ⟨#[47]⟩ ++ q) w1) := ⟨⟨by omega, by rw [hq1 hst, ← HTX.out, ← hs, show (true || decide (0 < i + 1)) = true by simp]; simp only [ByteArray.append_assoc], by rw [← HOK.out, ho, hst, show (true || decide (0 < i + 1)) = true by simp]; rfl, HB.out⟩⟩
              have hz1 : ¬ 9223372036854775807 < t.size + 1 := by omega
              have hz2 : ¬ 9223372036854775807 < t.size + 1 + q.size := by omega
              clear hs ho hq1 hq2 hcall
              go_wp2
              go_roundg (l.length - (i + 1))
              case measure => omega
              case rel => exact ⟨i + 1, _, (by first | go_num | simp [hz]), rfl, by omega, HNX⟩
          · have hz' : ¬ (i : Int) = 0 := by omega
            have hz0 : 0 < i := by omega
            cases hd : x.deep with
            | true =>
              rw [hd] at y0
              have hs : sepT fi x.deep = ⟨#[47, 47]⟩ := by rw [hfi]; simp [sepT, hd, tDs]
              have ho : sepOk fi x.deep = true := by rw [hfi]; simp [sepOk, hd, tDs]
              have HNX : Aside0 (RWPathI l true w (i + 1) (t ++ ⟨#[47, 47]⟩ ++ q) w1) := ⟨⟨by omega, by rw [hq1 hst, ← HTX.out, ← hs, show (true || decide (0 < i + 1)) = true by simp]; simp only [ByteArray.append_assoc], by rw [← HOK.out, ho, hst, show (true || decide (0 < i + 1)) = true by simp]; rfl, HB.out⟩⟩
              have hz1 : ¬ 9223372036854775807 < t.size + 2 := by omega
              have hz2 : ¬ 9223372036854775807 < t.size + 2 + q.size := by omega
              clear hs ho hq1 hq2 hcall
              go_wp2
              go_roundg (l.length - (i + 1))
              case measure => omega
              case rel => exact ⟨i + 1, _, (by first | go_num | simp [hz]), rfl, by omega, HNX⟩
            | false =>
              rw [hd] at y0
              have hs : sepT fi x.deep = ⟨#[47]⟩ := by rw [hfi]; simp [sepT, hd, tSl]
              have ho : sepOk fi x.deep = true := by rw [hfi]; simp [sepOk, hd, tSl]
              have HNX : Aside0 (RWPathI l true w (i + 1) (t ++ ⟨#[47]⟩ ++ q) w1) := ⟨⟨by omega, by rw [hq1 hst, ← HTX.out, ← hs, show (true || decide (0 < i + 1)) = true by simp]; simp only [ByteArray.append_assoc], by rw [← HOK.out, ho, hst, show (true || decide (0 < i + 1)) = true by simp]; rfl, HB.out⟩⟩
              have hz1 : ¬ 9223372036854775807 < t.size + 1 := by omega
              have hz2 : ¬ 9223372036854775807 < t.size + 1 + q.size := by omega
              clear hs ho hq1 hq2 hcall
              go_wp2
              go_roundg (l.length - (i + 1))
              case measure => omega
              case rel => exact ⟨i + 1, _, (by first | go_num | simp [hz]), rfl, by omega, HNX⟩
        | false =>
          by_cases hz : i = 0
          · have hz' : (i : Int) = 0 := by omega
            have y0 : w1.cell? ad = some (.bool x.deep) := by have := y0; rw [hz] at this; simpa [Addr.add] using this
            cases hd : x.deep with
            | true =>
              rw [hd] at y0
              have hso : sepOk fi true = false := by rw [hfi]; simp [sepOk, hz]
              have hr2 : (pathT false l).2 = false := by rw [HP.out, ← HOK.out, hd, hso, Bool.false_and, Bool.false_and]
              have HPO : Aside0 (RWPost (pathT false l) w (.returned (.tuple #[.string ⟨#[]⟩, .bool false])) w1) := ⟨⟨⟨#[]⟩, by rw [hr2], fun h => (by rw [hr2] at h; cases h), Nat.zero_le _, HB.out⟩⟩
              clear hr2
              go_wp2
              go_ret2
              exact HPO.out
            | false =>
              rw [hd] at y0
              have hs : sepT fi x.deep = ⟨#[]⟩ := by rw [hfi]; simp [sepT, hd, hz]
              have ho : sepOk fi x.deep = true := by rw [hfi]; simp [sepOk, hd, hz]
              have HNX : Aside0 (RWPathI l false w (i + 1) (t ++ ⟨#[]⟩ ++ q) w1) := ⟨⟨by omega, by rw [hq1 hst, ← HTX.out, ← hs, show (false || decide (0 < i + 1)) = true by simp]; simp only [ByteArray.append_assoc], by rw [← HOK.out, ho, hst, show (false || decide (0 < i + 1)) = true by simp]; rfl, HB.out⟩⟩
              have hz1 : ¬ 9223372036854775807 < t.size + 0 := by omega
              have hz2 : ¬ 9223372036854775807 < t.size + 0 + q.size := by omega
              clear hs ho hq1 hq2 hcall
              go_wp2
              go_roundg (l.length - (i + 1))
              case measure => omega
              case rel => exact ⟨i + 1, _, (by first | go_num | simp [hz]), rfl, by omega, HNX⟩
          · have hz' : ¬ (i : Int) = 0 := by omega
            have hz0 : 0 < i := by omega
            cases hd : x.deep with
            | true =>
              rw [hd] at y0
              have hs : sepT fi x.deep = ⟨#[47, 47]⟩ := by rw [hfi]; simp [sepT, hd, hz0, tDs]
              have ho : sepOk fi x.deep = true := by rw [hfi]; simp [sepOk, hd, hz0, tDs]
              have HNX : Aside0 (RWPathI l false w (i + 1) (t ++ ⟨#[47, 47]⟩ ++ q) w1) := ⟨⟨by omega, by rw [hq1 hst, ← HTX.out, ← hs, show (false || decide (0 < i + 1)) = true by simp]; simp only [ByteArray.append_assoc], by rw [← HOK.out, ho, hst, show (false || decide (0 < i + 1)) = true by simp]; rfl, HB.out⟩⟩
              have hz1 : ¬ 9223372036854775807 < t.size + 2 := by omega
              have hz2 : ¬ 9223372036854775807 < t.size + 2 + q.size := by omega
              clear hs ho hq1 hq2 hcall
              go_wp2
              go_roundg (l.length - (i + 1))
              case measure => omega
              case rel => exact ⟨i + 1, _, (by first | go_num | simp [hz]), rfl, by omega, HNX⟩
            | false =>
              rw [hd] at y0
              have hs : sepT fi x.deep = ⟨#[47]⟩ := by rw [hfi]; simp [sepT, hd, hz0, tSl]
              have ho : sepOk fi x.deep = true := by rw [hfi]; simp [sepOk, hd, hz0, tSl]
              have HNX : Aside0 (RWPathI l false w (i + 1) (t ++ ⟨#[47]⟩ ++ q) w1) := ⟨⟨by omega, by rw [hq1 hst, ← HTX.out, ← hs, show (false || decide (0 < i + 1)) = true by simp]; simp only [ByteArray.append_assoc], by rw [← HOK.out, ho, hst, show (false || decide (0 < i + 1)) = true by simp]; rfl, HB.out⟩⟩
              have hz1 : ¬ 9223372036854775807 < t.size + 1 := by omega
              have hz2 : ¬ 9223372036854775807 < t.size + 1 + q.size := by omega
              clear hs ho hq1 hq2 hcall
              go_wp2
              go_roundg (l.length - (i + 1))
              case measure => omega
              case rel => exact ⟨i + 1, _, (by first | go_num | simp [hz]), rfl, by omega, HNX⟩
    · obtain rfl : i = l.length := by omega
      have htxt := HI.out.txt
      have hok2 := HI.out.ok
      rw [List.drop_length, rowT_nil] at htxt hok2
      have ht : t = (rowT f l).1 := by rw [← htxt, app_nil]
      by_cases h0 : 0 < l.length
      · have h0' : (0 : Int) < (l.length : Int) := by omega
        have hp : pathT f l = rowT f l := by unfold pathT; rw [if_neg (by omega)]
        have HPO : Aside0 (RWPost (pathT f l) w (.returned (.tuple #[.string t, .bool true])) wr) := ⟨by rw [hp]; exact ⟨t, by rw [← hok2], fun _ => ht, by rw [ht]; exact Nat.le_refl _, HI.out.bel⟩⟩
        clear htxt hok2 ht hp
        go_wp2
        go_ret2
        exact HPO.out
      · have h0' : ¬ (0 : Int) < (l.length : Int) := by omega
        have hl0 : l = [] := List.eq_nil_of_length_eq_zero (by omega)
        have HPO : Aside0 (RWPost (pathT f l) w (.returned (.tuple #[.string t, .bool false])) wr) := ⟨by
          rw [hl0, rowT_nil] at ht
          rw [hl0]
          exact ⟨t, rfl, (fun h => by cases h), (by rw [ht]; exact Nat.le_refl _), HI.out.bel⟩⟩
        clear htxt hok2 ht hl0
        go_wp2
        go_ret2
        exact HPO.out
end Go.Proofs.YtoanmoddppmffaaGreatDoor.T
