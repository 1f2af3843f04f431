/- QueryJoins: two queries, one behind the other. -/
import Derived.Test.YtoanmoddppmffaaDoorMDa
import Derived.Test.YtoanmoddppmffaaDoorMJc
namespace Go.Proofs.YtoanmoddppmffaaDoor.T
open Go.RowKit Go.Shelf Go.Proofs.YtoanmoddppmffaaDoorW.PrintWords
set_option linter.unusedVariables false
set_option linter.unusedSimpArgs false
theorem steps_cells {ok : Nat → Prop} {w : World} {ad : Addr} {c : Nat} {l : List Step} (h : StepsR ok w (.slice (some ad) l.length c) l) : ∃ (n : Nat) (news : List Value), news.length = l.length * 4 ∧ (∀ j u, news[j]? = some u → w.cell? (ad.add j) = some u) ∧ (∀ u ∈ news, u.oneCell' = true) ∧
    ∀ j x, l[j]? = some x → stepR (fun k => ok k ∧ k < w.heap.size) w n x ((news.drop (j * 4)).take 4) := by
  obtain ⟨n, A, c', e, _, _, hr⟩ := h.bound
  injection e with e1 e2 e3
  subst e1
  obtain ⟨news, h1, h2, h3, h4⟩ := row_cells hr (fun x cs hk u hu => (movS.len ⟨n, hk⟩).2 u hu)
  exact ⟨n, news, h1, h2, h3, h4⟩
theorem steps_some {ok : Nat → Prop} {w : World} {A : Option Addr} {c : Nat} {l : List Step} (h : StepsR ok w (.slice A l.length c) l) (hl : l ≠ []) : ∃ ad, A = some ad := by
  obtain ⟨n, A', c', e, _, _, hr⟩ := h
  injection e with e1 e2 e3
  subst e1
  cases l with
  | nil => exact absurd rfl hl
  | cons x l =>
    obtain ⟨ad, cs, e, _⟩ := hr 0 x rfl
    exact ⟨ad, e⟩
theorem steps_joined {ok ok' : Nat → Prop} {base e n1 n2 N : Nat} {w0 w5 w6 : World} {v : Value} {l m : List Step} {a b : List Value} (ho : w6.ownsRow base e 4 v N (a ++ b)) (hN : N = l.length + m.length) (hl : a.length = l.length * 4)
    (ha : ∀ j x, l[j]? = some x → stepR (fun k => ok k ∧ k < w0.heap.size) w0 n1 x ((a.drop (j * 4)).take 4)) (hb : ∀ j x, m[j]? = some x → stepR (fun k => ok' k ∧ k < w5.heap.size) w5 n2 x ((b.drop (j * 4)).take 4))
    (h6 : ∀ k, k < w0.heap.size → w6.heap[k]? = w0.heap[k]?) (h56 : ∀ k, ok' k → k < w5.heap.size → w6.heap[k]? = w5.heap[k]?) : StepsR (fun _ => True) w6 v (l ++ m) := by
  refine ⟨n1 + n2, own_sl ho (by simp [hN]) (drop_both hl (fun j x hj => ?_) (fun j x hj => ?_))⟩
  · exact stepR_imp (fun k hk => h6 k hk.2) (fun _ _ => trivial) n1 (n1 + n2) (by omega) x _ (ha j x hj)
  · exact stepR_imp (fun k hk => h56 k hk.1 hk.2) (fun _ _ => trivial) n2 (n1 + n2) (by omega) x _ (hb j x hj)
set_option maxHeartbeats 4000000 in
set_option maxRecDepth 100000 in
theorem joins_any (a b : ByteArray) (w : World) (hV : Vr w) (hw : 4 < w.heap.size) : Calls Tryd.prog 4 #[.string a, .string b] w fun e w' => e = .returned (.bool true) ∧ Below w.heap.size w w' := by
  have h1 := awake_any w hV hw
  have HV := Aside0.mk hV
  have HW := Aside0.mk hw
  have hz := shortB_size a 100
  have hz2 := shortB_size b 100
  have hsh : ∀ w', Calls Tryd.prog 7 #[.string a, .int .i64 100] w' fun e w'' => e = .returned (.string (shortB a 100)) ∧ w' = w'' := fun w' => short_any a 100 w' (by decide)
  have hsh2 : ∀ w', Calls Tryd.prog 7 #[.string b, .int .i64 100] w' fun e w'' => e = .returned (.string (shortB b 100)) ∧ w' = w'' := fun w' => short_any b 100 w' (by decide)
  generalize shortB a 100 = s at hsh hz
  generalize shortB b 100 = t at hsh2 hz2
  clear hV hw
  go_enter Tryd.func4, Tryd.ntmps4
  go_wp2_with fail
  go_at_call 6
  refine h1.mono ?_
  rintro e w1 ⟨rfl, hb1⟩
  clear h1
  go_wp2_with fail
  go_at_call 7
  refine (hsh w1).mono ?_
  rintro e w1' ⟨rfl, rfl⟩
  clear hsh
  go_wp2_with fail
  go_at_call 7
  refine (hsh2 w1).mono ?_
  rintro e w1' ⟨rfl, rfl⟩
  clear hsh2
  have h2 := parse_any s 5000 (parseQ s) w1 (by decide) (parseQ_eq s) (HV.out.below hb1) (Nat.lt_of_lt_of_le HW.out hb1.size) (by omega)
  have HB1 := Aside0.mk hb1
  have HZ := Aside0.mk hz
  have HZ2 := Aside0.mk hz2
  clear hb1 hz hz2
  cases hp : parseQ s with
  | none =>
    rw [hp] at h2
    clear hp
    go_wp2_with fail
    go_at_call 8
    refine h2.mono ?_
    rintro e w2 ⟨hb2, rfl⟩
    have HB2 := Aside0.mk (below_step HB1.out hb2)
    have h3 := parse_any t 5000 (parseQ t) w2 (by decide) (parseQ_eq t) (HV.out.below HB2.out) (Nat.lt_of_lt_of_le HW.out HB2.out.size) (by have := HZ2.out; omega)
    clear h2 hb2
    go_wp2_with fail
    go_at_call 8
    refine h3.mono ?_
    intro e w3 hpp
    have hb3 : Below w2.heap.size w2 w3 := hpp.1
    have HB3 := Aside0.mk (below_step HB2.out hb3)
    obtain ⟨v, n, rfl⟩ : ∃ v n, e = .returned (.tuple #[v, .int .i64 n]) := by
      obtain ⟨_, hpp⟩ := hpp
      cases hq : parseQ t with
      | none => rw [hq] at hpp; exact ⟨_, _, hpp⟩
      | some m => rw [hq] at hpp; obtain ⟨A, c, rfl, _⟩ := hpp; exact ⟨_, _, rfl⟩
    clear h3 hpp hb3
    go_wp2
    go_ret
    exact ⟨rfl, HB3.out⟩
  | some l =>
    rw [hp] at h2
    have HP := Aside0.mk hp
    clear hp
    go_wp2_with fail
    go_at_call 8
    refine h2.mono ?_
    rintro e w2 ⟨hb2, A, c, rfl, hc, hs⟩
    have HB2 := Aside0.mk (below_step HB1.out hb2)
    have HS := Aside0.mk hs
    have h3 := parse_any t 5000 (parseQ t) w2 (by decide) (parseQ_eq t) (HV.out.below HB2.out) (Nat.lt_of_lt_of_le HW.out HB2.out.size) (by have := HZ2.out; omega)
    clear h2 hb2 hs
    cases hq : parseQ t with
    | none =>
      rw [hq] at h3
      clear hq
      go_wp2_with fail
      go_at_call 8
      refine h3.mono ?_
      rintro e w3 ⟨hb3, rfl⟩
      have HB3 := Aside0.mk (below_step HB2.out hb3)
      clear h3 hb3
      go_wp2
      go_ret
      exact ⟨rfl, HB3.out⟩
    | some m =>
      rw [hq] at h3
      have HQ := Aside0.mk hq
      clear hq
      go_wp2_with fail
      go_at_call 8
      refine h3.mono ?_
      rintro e w3 ⟨hb3, A', c', rfl, hc', hs'⟩
      have HB3 := Aside0.mk (below_step HB2.out hb3)
      have HS3 := Aside0.mk (HS.out.below hb3)
      have HM3 := Aside0.mk hs'
      have hj := parse_join HP.out HQ.out HZ.out HZ2.out
      have h4 := parse_any (s ++ t) 5000 (some (l ++ m)) w3 (by decide) (by rw [parseQ_eq, hj]) (HV.out.below HB3.out) (Nat.lt_of_lt_of_le HW.out HB3.out.size) (by rw [ByteArray.size_append]; have := HZ.out; have := HZ2.out; omega)
      have hsz : ¬ 9223372036854775807 < s.size + t.size := by have := HZ.out; have := HZ2.out; omega
      clear h3 hb3 hs' HS hj
      go_wp2_with fail
      go_at_call 8
      refine h4.mono ?_
      rintro e w4 ⟨hb4, A4, c4, rfl, hc4, hs4⟩
      rw [List.length_append] at hs4
      have HB4 := Aside0.mk (below_step HB3.out hb4)
      have hl4 := HS3.out.below hb4
      have hm4 := HM3.out.below hb4
      obtain ⟨hln, hll⟩ := parse_count HP.out
      obtain ⟨hmn, hml⟩ := parse_count HQ.out
      have hll' : l.length ≤ 101 := by have := HZ.out; omega
      have hml' : m.length ≤ 101 := by have := HZ2.out; omega
      obtain ⟨ad, rfl⟩ := steps_some hl4 hln
      obtain ⟨bd, rfl⟩ := steps_some hm4 hmn
      obtain ⟨n1, news1, p1, p2, p3, p4⟩ := steps_cells hl4
      have HN := Aside0.mk hs4
      have HM4 := Aside0.mk hm4
      have HP1 := Aside0.mk p1
      have HP2 := Aside0.mk p2
      have HP3 := Aside0.mk p3
      have HP4 := Aside0.mk p4
      have HLL := Aside0.mk hll'
      have HML := Aside0.mk hml'
      clear h4 hb4 hs4 hl4 hm4 p1 p2 p3 p4 hll hml hll' hml' HM3 HS3 hln hmn hc4
      go_upto_region 11 with (at_builtin; refine append_all w4 rfl (.tmp 43) (.tmp 44) 24 35 (.agg #[.bool false, .int .i64 0, .string ⟨#[]⟩, .slice none 0 0]) 4 56 rfl Tryd.underlying24 infoS rfl (by decide) (by decide) w4.heap.size (.slice none 0 0) 0 [] rfl (World.ownsRow_nil _ _ _ _) ad l.length c news1 rfl HP1.out HP2.out HP3.out (by have := HLL.out; omega) (Nat.le_refl _) ?_; intro v1 w5 ho1 hg1; have HO1 := Aside0.mk ho1; have HG1 := Aside0.mk hg1; clear ho1 hg1)
      have hw5 : ∀ k, k < w4.heap.size → w5.heap[k]? = w4.heap[k]? := fun k hk => HG1.out.block k hk (by simp [Value.ownBlock])
      obtain ⟨n2, news2, p1, p2, p3, p4⟩ := steps_cells (HM4.out.bound.imp_ (fun k hk => hw5 k hk.2) (fun k hk => hk))
      have HQ1 := Aside0.mk p1
      have HQ2 := Aside0.mk p2
      have HQ3 := Aside0.mk p3
      have HQ4 := Aside0.mk p4
      have HW5 := Aside0.mk hw5
      have HSZ5 : Aside0 (w4.heap.size ≤ w5.heap.size) := ⟨HG1.out.size⟩
      clear p1 p2 p3 p4 hw5
      go_upto_region 12 with (at_builtin; refine append_all w5 rfl (.tmp 46) (.tmp 47) 24 35 (.agg #[.bool false, .int .i64 0, .string ⟨#[]⟩, .slice none 0 0]) 4 56 rfl Tryd.underlying24 infoS rfl (by decide) (by decide) w4.heap.size v1 (0 + l.length) ([] ++ news1) rfl HO1.out bd m.length c' news2 rfl HQ1.out HQ2.out HQ3.out (by have := HLL.out; have := HML.out; omega) HSZ5.out ?_; intro v2 w6 ho2 hg2; have HO2 := Aside0.mk ho2; have HG2 := Aside0.mk hg2; clear ho2 hg2)
      have hg46 : w4.grownBy w6 none := gb_trans HG1.out HG2.out (.inr (fun k hk => own_base HO1.out k hk))
      have hb6 := below_of_gb hg46
      have HB6 := Aside0.mk (below_step HB4.out hb6)
      have hall := steps_joined (ok := _) (ok' := _) HO2.out (by omega) (by simpa using HP1.out) HP4.out HQ4.out (fun k hk => hb6.block k hk) (fun k hk hk5 => HG2.out.block k hk5 (fun e => by have := own_base HO1.out k e.symm; have := hk.2; omega))
      have h5 := refSame_eq (HN.out.below hb6) hall
      clear hall hb6 hg46
      go_wp2_with fail
      go_at_call 10
      refine h5.mono ?_
      rintro e w7 ⟨rfl, hb7⟩
      have HB7 := Aside0.mk (below_step HB6.out hb7)
      clear h5 hb7
      go_wp2
      go_ret
      exact ⟨rfl, HB7.out⟩
end Go.Proofs.YtoanmoddppmffaaDoor.T
