/- What the laws share: awake, short. -/
import Derived.Test.YtoanmoddppmffaaGreatDoorBQn
import Derived.Test.YtoanmoddppmffaaGreatDoorBRj
import Derived.Test.YtoanmoddppmffaaGreatDoorBFc
namespace Go.Proofs.YtoanmoddppmffaaGreatDoor.T
open Go.RowKit Go.Shelf Go.Proofs.YtoanmoddppmffaaGreatDoorW.PrintWords
set_option linter.unusedVariables false
set_option linter.unusedSimpArgs false
def awakeL : List Step := [⟨true, 1, ⟨#[97]⟩, [⟨4, 0, [], [⟨2, 0, [⟨false, 2, ⟨#[98]⟩, []⟩], []⟩, ⟨5, 0, [], [⟨2, 0, [⟨false, 1, ⟨#[99]⟩, []⟩], []⟩]⟩]⟩]⟩, ⟨false, 3, ⟨#[]⟩, []⟩]
theorem awake1 : parseG 5000 ⟨#[47, 47, 97, 91, 64, 98, 32, 111, 114, 32, 110, 111, 116, 40, 99, 41, 93, 47, 116, 101, 120, 116, 40, 41]⟩ = some (some awakeL) := by kernel_rfl
theorem awake2 : parseG 5000 ⟨#[47, 97, 91, 48, 93]⟩ = some none := by kernel_rfl
theorem awake3 : parseG 5000 ⟨#[97]⟩ = some none := by kernel_rfl
theorem awake4 : parseG 5000 ⟨#[47, 97, 91]⟩ = some none := by kernel_rfl
def shortB (s : ByteArray) (n : Nat) : ByteArray := if n < s.size then s.extract 0 n else s
theorem shortB_size (s : ByteArray) (n : Nat) : (shortB s n).size ≤ n := by
  unfold shortB
  split
  · rw [ByteArray.size_extract]; omega
  · omega
theorem short_any (s : ByteArray) (n : Nat) (w : World) (hn : n ≤ 1000) : Calls Tryz.prog 13 #[.string s, .int .i64 n] w fun e w' => e = .returned (.string (shortB s n)) ∧ w = w' := by
  have hn0 : (0 : Int) ≤ (n : Int) := by omega
  unfold shortB
  by_cases h : n < s.size
  · have h' : (n : Int) < (s.size : Int) := by omega
    rw [if_pos h]
    go_enter Tryz.func13, Tryz.ntmps13
    go_wp2
    go_ret
    exact ⟨rfl, rfl⟩
  · have h' : ¬ (n : Int) < (s.size : Int) := by omega
    rw [if_neg h]
    go_enter Tryz.func13, Tryz.ntmps13
    go_wp2
    go_ret
    exact ⟨rfl, rfl⟩
theorem Vr.below {w w' : World} (h : Vr w) (hb : Below w.heap.size w w') : Vr w' := by
  obtain ⟨ev, hc, he⟩ := h
  exact ⟨ev, pw_cell_below hb hc, he⟩
set_option maxHeartbeats 4000000 in
set_option maxRecDepth 100000 in
theorem awake_any (w : World) (hV : Vr w) (hw : 4 < w.heap.size) : Calls Tryz.prog 6 #[] w fun e w' => e = .returned (.bool true) ∧ Below w.heap.size w w' := by
  have h1 := parse_any ⟨#[47, 47, 97, 91, 64, 98, 32, 111, 114, 32, 110, 111, 116, 40, 99, 41, 93, 47, 116, 101, 120, 116, 40, 41]⟩ 5000 (some awakeL) w (by decide) awake1 hV hw (by decide)
  have HV := Aside0.mk hV
  have HW := Aside0.mk hw
  clear hV hw
  go_enter Tryz.func6, Tryz.ntmps6
  go_wp2_with fail
  go_at_call 11
  refine h1.mono ?_
  rintro e w1 ⟨hb1, A, c, rfl, hc, hs⟩
  obtain ⟨n, hs⟩ := hs
  obtain ⟨m, ad, c', u, rfl, he, hok, hp, x0, x1, x2, x3⟩ := hs.getS (j := 0) (x := ⟨true, 1, ⟨#[97]⟩, [⟨4, 0, [], [⟨2, 0, [⟨false, 2, ⟨#[98]⟩, []⟩], []⟩, ⟨5, 0, [], [⟨2, 0, [⟨false, 1, ⟨#[99]⟩, []⟩], []⟩]⟩]⟩]⟩) rfl
  obtain ⟨m', ad', c'', u', he0, he', _, _, y0, y1, y2, y3⟩ := hs.getS (j := 1) (x := ⟨false, 3, ⟨#[]⟩, []⟩) rfl
  obtain ⟨A2, c2, rfl, hc2, hc3⟩ := hp.slice
  obtain ⟨m2, ad2, c4, p4, a4, rfl, he2, hok2, _, _, z0, _, _, _⟩ := hp.getP (j := 0) rfl
  simp only [Value.slice.injEq, true_and] at he he' he2
  obtain ⟨rfl, rfl⟩ := he
  obtain ⟨rfl, rfl⟩ := he2
  obtain ⟨he3, rfl⟩ := he'
  obtain rfl := Option.some.inj he3
  have HB1 := Aside0.mk hb1
  have HC := Aside0.mk (And.intro x0 (And.intro x2 (And.intro x3 (And.intro z0 y1))))
  have h2 := parse_any ⟨#[47, 97, 91, 48, 93]⟩ 5000 none w1 (by decide) awake2 (HV.out.below hb1) (Nat.lt_of_lt_of_le HW.out hb1.size) (by decide)
  clear hb1 hs hp h1 he0 x0 x1 x2 x3 y0 y1 y2 y3 z0
  go_wp2_with fail
  go_at_call 11
  refine h2.mono ?_
  rintro e w2 ⟨hb2, rfl⟩
  have HB2 := Aside0.mk (below_step HB1.out hb2)
  have h3 := parse_any ⟨#[97]⟩ 5000 none w2 (by decide) awake3 (HV.out.below HB2.out) (Nat.lt_of_lt_of_le HW.out HB2.out.size) (by decide)
  have HC2 := Aside0.mk (And.intro (pw_cell_below hb2 HC.out.1) (And.intro (pw_cell_below hb2 HC.out.2.1) (And.intro (pw_cell_below hb2 HC.out.2.2.1) (And.intro (pw_cell_below hb2 HC.out.2.2.2.1) (pw_cell_below hb2 HC.out.2.2.2.2)))))
  clear hb2 h2
  go_wp2_with fail
  go_at_call 11
  refine h3.mono ?_
  rintro e w3 ⟨hb3, rfl⟩
  have HB3 := Aside0.mk (below_step HB2.out hb3)
  have h4 := parse_any ⟨#[47, 97, 91]⟩ 5000 none w3 (by decide) awake4 (HV.out.below HB3.out) (Nat.lt_of_lt_of_le HW.out HB3.out.size) (by decide)
  have HC3 := Aside0.mk (And.intro (pw_cell_below hb3 HC2.out.1) (And.intro (pw_cell_below hb3 HC2.out.2.1) (And.intro (pw_cell_below hb3 HC2.out.2.2.1) (And.intro (pw_cell_below hb3 HC2.out.2.2.2.1) (pw_cell_below hb3 HC2.out.2.2.2.2)))))
  clear hb3 h3
  go_wp2_with fail
  go_at_call 11
  refine h4.mono ?_
  rintro e w4 ⟨hb4, rfl⟩
  have HB4 := Aside0.mk (below_step HB3.out hb4)
  have x0 := pw_cell_below hb4 HC3.out.1
  have x2 := pw_cell_below hb4 HC3.out.2.1
  have x3 := pw_cell_below hb4 HC3.out.2.2.1
  have z0 := pw_cell_below hb4 HC3.out.2.2.2.1
  have y1 := pw_cell_below hb4 HC3.out.2.2.2.2
  have hl : (awakeL.length : Nat) = 2 := rfl
  have a0 : ∀ d : Addr, d.add (0 * 4) = d := fun d => by simp [Addr.add]
  have a4 : ∀ d : Addr, d.add (1 * 4) = ⟨d.block, d.off + 4, none⟩ := fun d => by simp [Addr.add]
  simp only [a0, a4] at x0 x2 x3 z0 y1
  simp only [hl, List.length_cons, List.length_nil, Nat.zero_add] at x3 ⊢
  clear a0 a4
  clear hb4 h4
  go_wp2
  go_ret
  exact ⟨rfl, HB4.out⟩
theorem StepsR.below {ok : Nat → Prop} {w w' : World} {v : Value} {xs : List Step} (h : StepsR ok w v xs) (hb : Below w.heap.size w w') : StepsR (fun k => ok k ∧ k < w.heap.size) w' v xs :=
  h.bound.imp_ (fun k hk => hb.block k hk.2) (fun k hk => hk)
end Go.Proofs.YtoanmoddppmffaaGreatDoor.T
