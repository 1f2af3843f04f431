/- What each function of the program comes to, and its walk: laid by a program. -/
import Derived.Test.YtoanmoddppmffaaJTx0
import Derived.Test.YtoanmoddppmffaaJTx1
import Derived.Test.YtoanmoddppmffaaJTx2
namespace Go.Proofs.Ytoanmoddppmffaa.T
open Go.RowKit Go.Proofs.YtoanmoddppmffaaW.PrintWords Go.Proofs.YtoanmoddppmffaaW.PrintLast Go.Proofs.YtoanmoddppmffaaW.PrintMore
set_option linter.unusedVariables false
set_option linter.unusedSimpArgs false
section
attribute [local go_sem] Oper.semAt_some
def chain (l1 : List S52) : Nat → Int → List Int
 | 0, _ => []
 | k + 1, p => if 0 ≤ p then p :: chain l1 k (parOf l1 p) else []
theorem parOf_le (l1 : List S52) (i : Int) : parOf l1 i < i ∨ parOf l1 i = -1 := by
 unfold parOf
 split
 ·split <;> omega
 ·omega
theorem chain_enough (l1 : List S52) : ∀ (k m : Nat) (p : Int), p < (k : Int) → p < (m : Int) → chain l1 k p = chain l1 m p
 | 0, 0, _, _, _ => rfl
 | 0, m + 1, p, h, _ => by simp only [chain]; rw [if_neg (by omega)]
 | k + 1, 0, p, _, h => by simp only [chain]; rw [if_neg (by omega)]
 | k + 1, m + 1, p, h1, h2 => by
  simp only [chain]
  by_cases h0 : 0 ≤ p
  ·rw [if_pos h0, if_pos h0, chain_enough l1 k m]
   ·rcases parOf_le l1 p with h | h <;> omega
   ·rcases parOf_le l1 p with h | h <;> omega
  ·rw [if_neg h0, if_neg h0]
theorem chain_length (l1 : List S52) : ∀ (k : Nat) (p : Int), (chain l1 k p).length ≤ k
 | 0, _ => Nat.le_refl _
 | k + 1, p => by
  simp only [chain]
  split
  ·simp only [List.length_cons]; have := chain_length l1 k (parOf l1 p); omega
  ·simp
def aboves (l1 : List S52) (i : Int) : List Int := chain l1 l1.length (parOf l1 i)
theorem parOf_ge (l1 : List S52) (i : Int) : -1 ≤ parOf l1 i := by
 unfold parOf
 split
 ·split <;> omega
 ·omega
theorem parOf_bound (l1 : List S52) (i : Int) : parOf l1 i < (l1.length : Int) := by
 unfold parOf
 split
 ·split <;> omega
 ·omega
set_option maxHeartbeats 400000 in
set_option maxRecDepth 100000 in
theorem around_calls (A0 : Option Addr) (n0 c0 : Nat) (A1 : Option Addr) (n1 c1 : Nat) (i : Int) (w : World) :
  Calls Try.prog 33 #[.agg #[.slice A0 n0 c0, .slice A1 n1 c1], .int .i64 i] w fun e w' => e = .returned (.func (.func 40) #[] #[.pointer (some ⟨w.heap.size, 0, none⟩), .pointer (some ⟨w.heap.size + 1, 0, none⟩)]) ∧
   w' = (w.alloc (.cells #[.slice A0 n0 c0, .slice A1 n1 c1] 25)).alloc (.cells #[.int .i64 i] 3) := by
 go_enter Try.func33, Try.ntmps33
 go_wp2
 go_ret
 exact ⟨rfl, rfl⟩
def KpU (n0 b2 b3 : Nat) (W W' : World) : Prop := Below n0 W W' ∧ W'.heap[b2]? = W.heap[b2]? ∧ W'.heap[b3]? = W.heap[b3]?
set_option maxHeartbeats 800000 in
set_option maxRecDepth 100000 in
theorem around1_in (n : Nat) (hn : 1 ≤ n) (l b2 b3 : Nat) (A0 : Option Addr) (c0 : Nat) (l0 : List ByteArray) (A1 : Option Addr) (c1 : Nat) (l1 : List S52) (i : Int) (w : World)
  (hr0 : Kd.C Kd.string w A0 l0.length l0) (hc0 : l0.length ≤ c0) (hr1 : Kd.C k52 w A1 l1.length l1) (hc1 : l1.length ≤ c1) (J Jx : List Int → World → Prop)
  (hY : ∀ pre x W, J pre W → pre.length < (aboves l1 i).length → YieldAt Fence.wide (n - 1) Try.prog l #[.int .i64 x] W fun e W' =>
   (e = .returned (.bool true) ∧ J (pre ++ [x]) W' ∧ KpU w.heap.size b2 b3 W W') ∨ (e = .returned (.bool false) ∧ Jx (pre ++ [x]) W'))
  (W : World) (hJ : AbidesFrom W.heap.size J) (hw : Below w.heap.size w W)
  (h2 : W.heap[b2]? = some (.cells #[.slice A0 l0.length c0, .slice A1 l1.length c1] 25 (0, 0))) (h3 : W.heap[b3]? = some (.cells #[.int .i64 i] 3 (0, 0))) (h0 : J [] W) :
  CallsIn Fence.wide n Try.prog 40 #[.func (.yield l) #[] #[], .pointer (some ⟨b2, 0, none⟩), .pointer (some ⟨b3, 0, none⟩)] W fun e W' => (∃ v, e = .returned v) ∧
   ((∃ ys, ys = aboves l1 i ∧ J ys W') ∨ (∃ pre, pre <+: aboves l1 i ∧ Jx pre W')) := by
 refine callsIn_of_wp Try.func40 rfl trivial ?_ rfl
 simp only [Try.ntmps40, List.size_toArray, List.length_cons, List.length_nil, Nat.reduceAdd, Nat.reduceSub, Array.replicate_succ, Array.replicate_zero, List.push_toArray, List.append_toArray, List.nil_append, List.cons_append]
 have HR0 := Aside0.mk hr0
 have HC0 := Aside0.mk hc0
 have HR1 := Aside0.mk hr1
 have HC1 := Aside0.mk hc1
 have HW := Aside0.mk hw
 have H2 := Aside0.mk h2
 have H3 := Aside0.mk h3
 have HY := Aside0.mk hY
 have HJ := Aside0.mk hJ
 have H0 := Aside0.mk h0
 have ct0 : W.cell? ⟨b2, 0, none⟩ = some (.slice A0 l0.length c0) := (blk_cell h2 0).trans rfl
 have ct1 : W.cell? ⟨b2, 1, none⟩ = some (.slice A1 l1.length c1) := (blk_cell h2 1).trans rfl
 have ci : W.cell? ⟨b3, 0, none⟩ = some (.int .i64 i) := (blk_cell h3 0).trans rfl
 have hu25 := Try.underlying25
 clear hr0 hc0 hr1 hc1 hw h2 h3 hY hJ h0
 gi_wp2_with (refine ⟨trivial, ?_⟩; gi_at_call 17; refine (callsIn_wide.2 (tree_Parent.calls 1 A0 c0 l0 A1 c1 l1 i (parOf l1 i) _ ?_ HC0.out ?_ HC1.out (parent_tells 0 _ _ _))).mono ?_; exact Kd.C_below HR0.out HW.out; exact Kd.C_below HR1.out HW.out; rintro e w' ⟨rfl, hb⟩)
 have hjn : J [] w' := HJ.out [] W w' none H0.out (grown_of_below hb none) (fun r e => by cases e)
 have hsz : W.heap.size ≤ w'.heap.size := hb.size
 have HJn := Aside0.mk hjn
 have HSZ := Aside0.mk hsz
 have HW' := Aside0.mk (below_step HW.out hb)
 have H2' := Aside0.mk (blk_below H2.out hb)
 have H3' := Aside0.mk (blk_below H3.out hb)
 clear hb hjn hsz ct0 ct1 ci H2 H3 H0
 gi_loopw [4] (fun p wr => ∃ (pre : List Int) (q : Int), p = .int .i64 q ∧ Aside0 (aboves l1 i = pre ++ chain l1 l1.length q) ∧ Aside0 (-1 ≤ q ∧ q < (l1.length : Int)) ∧ Aside0 (J pre wr) ∧ Aside0 (Below w.heap.size w wr) ∧ Aside0 (wr.heap[b2]? = some (.cells #[.slice A0 l0.length c0, .slice A1 l1.length c1] 25 (0, 0))))
  (fun p _ => (intOf p + 1).toNat)
 case atStart =>
  exact ⟨[], _, rfl, ⟨rfl⟩, ⟨parOf_ge _ _, parOf_bound _ _⟩, HJn, HW', H2'⟩
 case round =>
  obtain ⟨pre, q, rfl, HX, HQ, HJp, HB, HT⟩ := hrel
  have ct0 : wr.cell? ⟨b2, 0, none⟩ = some (.slice A0 l0.length c0) := (blk_cell HT.out 0).trans rfl
  have ct1 : wr.cell? ⟨b2, 1, none⟩ = some (.slice A1 l1.length c1) := (blk_cell HT.out 1).trans rfl
  by_cases hq : 0 ≤ q
  ·have hlt : q < (l1.length : Int) := HQ.out.2
   have hlen : 0 < l1.length := by omega
   have hch : chain l1 l1.length q = q :: chain l1 l1.length (parOf l1 q) := by
    obtain ⟨k, hk⟩ : ∃ k, l1.length = k + 1 := ⟨l1.length - 1, by omega⟩
    rw [hk]
    have e : chain l1 (k + 1) q = q :: chain l1 k (parOf l1 q) := by simp only [chain]; rw [if_pos hq]
    rw [e, chain_enough l1 k (k + 1)]
    ·rcases parOf_le l1 q with h | h <;> omega
    ·rcases parOf_le l1 q with h | h <;> omega
   obtain ⟨fn, tmps, assign, body, hy, hR⟩ := HY.out pre q wr HJp.out (by rw [HX.out, hch]; simp)
   have hqb : decide (0 ≤ q) = true := decide_eq_true hq
   have HCH := Aside0.mk hch
   clear hch
   gi_wp2
   refine hR.mono ?_
   clear hR hy
   rintro e W3 (⟨rfl, hJ3, hk1, hk2, hk3⟩ | ⟨rfl, hJx3⟩)
   ·have HJ3 := Aside0.mk hJ3
    have HB3 := Aside0.mk (HB.out.trans hk1)
    have HT3 := Aside0.mk (hk2.trans HT.out)
    have ct0' : W3.cell? ⟨b2, 0, none⟩ = some (.slice A0 l0.length c0) := (blk_cell HT3.out 0).trans rfl
    have ct1' : W3.cell? ⟨b2, 1, none⟩ = some (.slice A1 l1.length c1) := (blk_cell HT3.out 1).trans rfl
    clear hJ3 hk1 hk2 hk3
    gi_wp2_with (refine ⟨trivial, ?_⟩; gi_at_call 17; refine (callsIn_wide.2 (tree_Parent.calls 1 A0 c0 l0 A1 c1 l1 q (parOf l1 q) _ ?_ HC0.out ?_ HC1.out (parent_tells 0 _ _ _))).mono ?_; exact Kd.C_below HR0.out HB3.out; exact Kd.C_below HR1.out HB3.out; rintro e w4 ⟨rfl, hb4⟩)
    have HJ4 := Aside0.mk (HJ.out _ _ w4 none HJ3.out (grown_of_below hb4 none) (fun r e => by cases e))
    have HB4 := Aside0.mk (below_step HB3.out hb4)
    have HT4 := Aside0.mk (blk_below HT3.out hb4)
    clear hb4
    go_roundw
    case rel => exact ⟨pre ++ [q], parOf l1 q, rfl, ⟨by rw [HX.out, HCH.out]; simp⟩, ⟨parOf_ge _ _, parOf_bound _ _⟩, HJ4, HB4, HT4⟩
    case measure => simp [intOf]; have := parOf_le l1 q; have := parOf_ge l1 q; omega
   ·have HJ3 := Aside0.mk hJx3
    clear hJx3
    gi_wp2
    go_end0
    exact ⟨⟨_, rfl⟩, .inr ⟨pre ++ [q], ⟨chain l1 l1.length (parOf l1 q), by rw [HX.out, HCH.out]; simp⟩, HJ3.out⟩⟩
  ·have hqb : decide (0 ≤ q) = false := decide_eq_false hq
   have he : chain l1 l1.length q = [] := by
    cases hl : l1.length with
    | zero => rfl
    | succ k => simp only [chain]; rw [if_neg hq]
   have HE := Aside0.mk (show pre = aboves l1 i by rw [HX.out, he]; simp)
   clear he
   gi_wp2
   all_goals (refine ⟨(fun _ h => by cases h), ?_⟩; gi_wp2)
   all_goals (go_end0; exact ⟨⟨_, rfl⟩, .inl ⟨pre, HE.out, HJp.out⟩⟩)
theorem around_stops (n : Nat) (hn : 1 ≤ n) (b2 b3 : Nat) (A0 : Option Addr) (c0 : Nat) (l0 : List ByteArray) (A1 : Option Addr) (c1 : Nat) (l1 : List S52) (i : Int) (w w1 : World)
  (hr0 : Kd.C Kd.string w A0 l0.length l0) (hc0 : l0.length ≤ c0) (hr1 : Kd.C k52 w A1 l1.length l1) (hc1 : l1.length ≤ c1) (hw : Below w.heap.size w w1)
  (h2 : w1.heap[b2]? = some (.cells #[.slice A0 l0.length c0, .slice A1 l1.length c1] 25 (0, 0))) (h3 : w1.heap[b3]? = some (.cells #[.int .i64 i] 3 (0, 0))) :
  SeqStopsK Fence.wide n Try.prog 40 #[.pointer (some ⟨b2, 0, none⟩), .pointer (some ⟨b3, 0, none⟩)] (fun x : Int => #[Value.int .i64 x]) (KpU w.heap.size b2 b3) (fun ys => ys = aboves l1 i) (fun pre => pre <+: aboves l1 i) (aboves l1 i).length w1 := fun l J Jx W hW hJ _ hY h0 =>
 around1_in n hn l b2 b3 A0 c0 l0 A1 c1 l1 i w hr0 hc0 hr1 hc1 J Jx hY W hJ (below_step hw hW) (blk_below h2 hW) (blk_below h3 hW) h0
theorem symbol_some (l0 : List ByteArray) (l1 : List S52) (i : Int) : ∃ r, tree_Symbol.f 3 l0 l1 i = some r := by
 unfold tree_Symbol.f
 simp only [tree_Symbol.j0, tree_Symbol.j1, tree_Symbol.j2]
 by_cases h0 : i < 0
 ·rw [if_pos h0]; exact ⟨-1, by simp⟩
 ·rw [if_neg h0]
  by_cases h1 : i ≥ (l1.length : Int)
  ·exact ⟨-1, by simp [h1]⟩
  ·have h1' : decide (i ≥ (l1.length : Int)) = false := by simpa using h1
   rw [h1', if_neg (by decide), if_pos (by omega), if_pos (by omega)]
   simp only [tree_Symbols.f, Option.bind_some]
   repeat' split
   all_goals exact ⟨_, rfl⟩
def symP (l0 : List ByteArray) (l1 : List S52) (i : Int) : Int := (tree_Symbol.f 3 l0 l1 i).getD 0
theorem symP_tells (l0 : List ByteArray) (l1 : List S52) (i : Int) : tree_Symbol.f 3 l0 l1 i = some (symP l0 l1 i) := by
 obtain ⟨r, h⟩ := symbol_some l0 l1 i
 unfold symP
 rw [h]; rfl
theorem R_abides {α : Type} {d : Kd α} {e : Nat} {X Y : World} {base : Nat} {ok : Nat → Prop} {v : Value} {xs : List α} {row : Option Nat} (h : d.R e X base ok v xs) (hg : X.grownBy Y row) (hr : ∀ r, row = some r → ∃ o : Obj, X.heap[r]? = some o ∧ o.isCells = false) : d.R e Y base ok v xs := by
 refine Kd.R_mono (Kd.R_grown (Kd.R_bound h) hg (fun k hk e => ?_)) (fun k hk => hk.1)
 obtain ⟨o, ho, hc⟩ := hr k e.symm
 obtain ⟨_, _, _, q, _, cells, hcell⟩ := hk
 rw [hcell] at ho
 cases ho
 cases hc
theorem box_abides {X Y : World} {g : Nat} {cs : Array Value} {t : TypeId} {row : Option Nat} (h : X.heap[g]? = some (.cells cs t (0, 0))) (hg : X.grownBy Y row) (hr : ∀ r, row = some r → ∃ o : Obj, X.heap[r]? = some o ∧ o.isCells = false) : Y.heap[g]? = some (.cells cs t (0, 0)) := by
 refine blk_grown h hg (fun e => ?_)
 obtain ⟨o, ho, hc⟩ := hr g e.symm
 rw [h] at ho
 cases ho
 cases hc
section
variable {P : Program} {ops : Array Oper} {Q : Exit → Act → World → Prop} {md : Region.Mode} {S : World → Prop} {ds : List Nat} {l n : Nat}
theorem callsIn_round {f : FuncId} {args : Array Value} {w : World} {R : Ending → World → Prop} (h : Calls P f args w R) : CallsIn (Fence.wide.inRound l) n P f args w R := CallsIn.inRound l (callsIn_wide.2 h)
theorem rowsIn_round {row : String} {args : Array Value} {w : World} {R : Value → World → Prop} (h : Rows P row args w R) : RowsIn (Fence.wide.inRound l) n P row args w R := fun c cs _ => by
 obtain ⟨v, w', r, s⟩ := h c cs
 exact ⟨v, w', r, stepsIn_wide.2 s⟩
theorem uponIn_round {o : Oper} {a : Act} {next : Act → World → Prop} {r : Result Next} (h : o.upon P a next Q r) : o.uponIn (Fence.wide.inRound l) n P a next Q r := by
 cases r with
 | ok x w' =>
  cases x with
  | value v => exact h
  | skip => exact h
  | «defer» d => exact h
  | enter f args =>
   refine ⟨fun e => by simp [Fence.wide] at e, callsIn_round ?_⟩
   exact h
  | row row args =>
   refine ⟨fun e => by simp [Fence.wide] at e, rowsIn_round ?_⟩
   exact h
  | _ => exact h.elim
 | halt x w' =>
  cases x <;> first | exact h | exact h.elim
def noDefer (ops : Array Oper) : Bool := ops.all fun o => match o.op with | .defer _ => false | _ => true
theorem noDefer_at (h : noDefer ops = true) {i : Nat} {o : Oper} (ho : ops[i]? = some o) : ∀ c, o.op ≠ .defer c := by
 intro c e
 unfold noDefer at h
 rw [Array.all_eq_true] at h
 obtain ⟨hi, he⟩ := Array.getElem?_eq_some_iff.1 ho
 have := h i hi
 rw [he, e] at this
 cases this
theorem wpOpIn_round (hno : ¬ LetsOut Q) (hnd : noDefer ops = true) {i : Nat} {K K' : Act → World → Prop} (hK : ∀ a w, K a w → K' a w) {a : Act} {w : World} (h : wpOp P ops Q i K a w) : wpOpIn (Fence.wide.inRound l) n P ops Q i K' a w := by
 refine wpOpIn_mono hK ?_
 unfold wpOp at h
 unfold wpOpIn
 cases ho : ops[i]? with
 | none => rw [ho] at h; exact h
 | some o =>
  rw [ho] at h
  simp only at h ⊢
  split
  ·rename_i hw
   rw [if_pos hw] at h
   rcases h with h | h
   ·unfold Oper.wpIn
    refine ⟨fun _ _ => trivial, ?_⟩
    rw [Oper.semAt_eq _ _ _ (noDefer_at hnd ho)]
    exact uponIn_round h
   ·exact absurd h.2 hno
  ·rename_i hw
   rw [if_neg hw] at h
   exact ⟨fun _ _ => trivial, h⟩
theorem wpAnyIn_round (hno : ¬ LetsOut Q) (hnd : noDefer ops = true) : ∀ (fuel : Nat) (listed : Array Bool) (a : Act) (w : World), wpAny P md ops Q fuel listed a w → wpAnyIn (Fence.wide.inRound l) n P md ops Q fuel listed a w
 | 0, _, _, _, h => h
 | fuel + 1, _, _, _, h => ⟨h.1, fun i hi => wpOpIn_round hno hnd (fun a' w' h' => wpAnyIn_round hno hnd fuel _ a' w' h') (h.2 i hi)⟩
theorem wpIn_round_last {id m : Nat} {a : Act} {w : World} (L : Array Bool) (hm : P.follows .mixedOrders = true) (hno : ¬ LetsOut Q) (hnd : noDefer ops = true) (hn : ops.size = m) (hl : Array.replicate m false = L) (hS : S w.drew)
  (h : S w.drew → wpAnyLast P .any ops Q S ds m L a w.drew) : (Code.region id ops true).wpIn (Fence.wide.inRound l) n P Q a w := by
 subst hn
 subst hl
 exact wpIn_region_any hm (wpAnyIn_round hno hnd _ _ _ _ (wpAny_of_last _ _ _ _ (h hS)))
end
def UpAt (w : World) (A0 : Option Addr) (c0 : Nat) (l0 : List ByteArray) (A1 : Option Addr) (c1 : Nat) (l1 : List S52) (i : Int) (pre : List Int) (W : World) : Prop :=
 ∃ v, W.heap[w.heap.size]? = some (.cells #[.slice A0 l0.length c0, .slice A1 l1.length c1] 25 (0, 0)) ∧ W.heap[w.heap.size + 1]? = some (.cells #[v] 29 (0, 0)) ∧
  W.heap[w.heap.size + 2]? = some (.cells #[.slice A0 l0.length c0, .slice A1 l1.length c1] 25 (0, 0)) ∧ W.heap[w.heap.size + 3]? = some (.cells #[.int .i64 i] 3 (0, 0)) ∧
  Kd.R (Kd.int .i64) 3 W w.heap.size (fun k_ => k_ ≠ w.heap.size ∧ k_ ≠ w.heap.size + 1 ∧ k_ ≠ w.heap.size + 2 ∧ k_ ≠ w.heap.size + 3) v (pre.map (symP l0 l1)) ∧ Below w.heap.size w W
theorem UpAt.own (w : World) (A0 : Option Addr) (c0 : Nat) (l0 : List ByteArray) (A1 : Option Addr) (c1 : Nat) (l1 : List S52) (i : Int) (B : Nat) (hB : w.heap.size ≤ B) : OwnFrom B (UpAt w A0 c0 l0 A1 c1 l1 i) := by
 rintro s X Y row ⟨v, h1, h2, h3, h4, h5, h6⟩ hg hr
 have hr' : ∀ r, row = some r → ∃ o : Obj, X.heap[r]? = some o ∧ o.isCells = false := fun r e => (hr r e).2
 exact ⟨v, box_abides h1 hg hr', box_abides h2 hg hr', box_abides h3 hg hr', box_abides h4 hg hr', R_abides h5 hg hr', h6.grown hg h6.size (fun k e => Nat.le_trans hB (hr k e).1)⟩
set_option maxHeartbeats 800000 in
set_option maxRecDepth 100000 in
theorem up_in (A0 : Option Addr) (c0 : Nat) (l0 : List ByteArray) (A1 : Option Addr) (c1 : Nat) (l1 : List S52) (i : Int) (w : World)
  (hr0 : Kd.C Kd.string w A0 l0.length l0) (hc0 : l0.length ≤ c0) (hr1 : Kd.C k52 w A1 l1.length l1) (hc1 : l1.length ≤ c1) (hlen : l1.length < 17592186044416) :
  CallsIn Fence.wide 5 Try.prog 24 #[.agg #[.slice A0 l0.length c0, .slice A1 l1.length c1], .int .i64 i] w fun e W' => ∃ v, e = .returned v ∧ Kd.R (Kd.int .i64) 3 W' w.heap.size (fun _ => True) v ((aboves l1 i).map (symP l0 l1)) ∧ Below w.heap.size w W' := by
 refine callsIn_of_wp_marks Try.func24 rfl trivial ?_ rfl
 simp only [Try.ntmps24, List.size_toArray, List.length_cons, List.length_nil, Nat.reduceAdd, Nat.reduceSub, Array.replicate_succ, Array.replicate_zero, List.push_toArray, List.append_toArray, List.nil_append, List.cons_append]
 have HR0 := Aside0.mk hr0
 have HC0 := Aside0.mk hc0
 have HR1 := Aside0.mk hr1
 have HC1 := Aside0.mk hc1
 have hu25 := Try.underlying25
 clear hr0 hc0 hr1 hc1
 gi_wp2_with (refine ⟨trivial, ?_⟩; gi_at_call 33; refine (callsIn_wide.2 (around_calls A0 l0.length c0 A1 l1.length c1 i _)).mono ?_; rintro e w' ⟨rfl, rfl⟩)
 obtain ⟨W0, hW0⟩ : ∃ W0, (((w.alloc (.cells #[.slice A0 l0.length c0, .slice A1 l1.length c1] 25)).alloc (.cells #[.slice none 0 0] 29)).alloc (.cells #[.slice A0 l0.length c0, .slice A1 l1.length c1] 25)).alloc (.cells #[.int .i64 i] 3) = W0 := ⟨_, rfl⟩
 have hs0 : W0.heap.size = w.heap.size + 4 := by rw [← hW0]; simp
 have hI0 : UpAt w A0 c0 l0 A1 c1 l1 i [] W0 := by
  rw [← hW0]
  refine ⟨.slice none 0 0, ?_, ?_, ?_, ?_, Kd.R_nil _ _ _ _ _, below_alloc (below_alloc (below_alloc (below_alloc (Below.refl _ _) _) _) _) _⟩
  ·exact blk_alloc (blk_alloc (blk_alloc (blk_new w _) _) _) _
  ·exact blk_alloc (blk_alloc (by simpa using blk_new (w.alloc _) _) _) _
  ·exact blk_alloc (by simpa using blk_new ((w.alloc _).alloc _) _) _
  ·simpa using blk_new (((w.alloc _).alloc _).alloc _) _
 rw [hW0]
 clear hW0
 have HI0 := Aside0.mk hI0
 have HS0 := Aside0.mk hs0
 obtain ⟨_, hb1, hb2, hb3, hb4, hbR, hbB⟩ := hI0
 refine wpIn_rangeFunc_ownG rfl (by omega) (gf := 40) (lb := #[.pointer (some ⟨w.heap.size + 1 + 1, 0, none⟩), .pointer (some ⟨w.heap.size + 1 + 1 + 1, 0, none⟩)]) rfl trivial (enters_of Try.func40 (by kernel_rfl) rfl)
  (around_stops 4 (by omega) (w.heap.size + 2) (w.heap.size + 3) A0 c0 l0 A1 c1 l1 i w W0 HR0.out HC0.out HR1.out HC1.out hbB hb3 hb4)
  (fun {A B C} h k => ⟨h.1.trans k.1, k.2.1.trans h.2.1, k.2.2.trans h.2.2⟩)
  (fun W l o o' hl ho hc _ => ⟨belowK_b (w := W0) (by omega) W l o o' hl ho hc (by cases o <;> simp_all), World.putObj_heap_other (by omega), World.putObj_heap_other (by omega)⟩)
  (Below.refl _ _) (fun _ => rfl)
  (UpAt w A0 c0 l0 A1 c1 l1 i) (fun _ _ _ => False) (UpAt.own w A0 c0 l0 A1 c1 l1 i _ (by omega)) (fun _ _ _ _ _ hs _ _ => hs) HI0.out
  (fun x => { tmps := #[.agg #[.slice A0 l0.length c0, .slice A1 l1.length c1], .int .i64 i, .pointer (some ⟨w.heap.size, 0, none⟩), undef, .slice none 0 0, .pointer (some ⟨w.heap.size + 1, 0, none⟩), .int .i64 x,
   .agg #[.slice A0 l0.length c0, .slice A1 l1.length c1], .int .i64 i, .func (.func 40) #[] #[.pointer (some ⟨w.heap.size + 1 + 1, 0, none⟩), .pointer (some ⟨w.heap.size + 1 + 1 + 1, 0, none⟩)], .int .i64 x, undef, undef, undef, undef, undef, undef, undef], defers := [] }) ?assign ?body ?done ?stop
 case assign =>
  intro l x W K hK
  gi_wp2
  exact hK
 case body =>
  rintro l pre x W hI hlt
  have HI := Aside0.mk hI
  obtain ⟨v, h1, h2, h3, h4, h5, h6⟩ := hI
  have ct0 : W.cell? ⟨w.heap.size, 0, none⟩ = some (.slice A0 l0.length c0) := (blk_cell h1 0).trans rfl
  have ct1 : W.cell? ⟨w.heap.size, 1, none⟩ = some (.slice A1 l1.length c1) := (blk_cell h1 1).trans rfl
  have co : W.cell? ⟨w.heap.size + 1, 0, none⟩ = some v := (blk_cell h2 0).trans rfl
  have H1 := Aside0.mk h1
  have H2 := Aside0.mk h2
  have H3 := Aside0.mk h3
  have H4 := Aside0.mk h4
  have H5 := Aside0.mk h5
  have H6 := Aside0.mk h6
  have HS := Aside0.mk (symP_tells l0 l1 x)
  clear h1 h2 h3 h4 h5 h6 hb1 hb2 hb3 hb4 hbR hbB
  gi_wp2_with fail
  refine wpIn_round_last (S := fun w' => w'.cell? ⟨w.heap.size, 0, none⟩ = some (.slice A0 l0.length c0) ∧ w'.cell? ⟨w.heap.size, 1, none⟩ = some (.slice A1 l1.length c1) ∧ w'.cell? ⟨w.heap.size + 1, 0, none⟩ = some v) (ds := [6])
   #[false, false, false, false, false, false, false] (by kernel_rfl) (by rintro ⟨a, w, h⟩; exact h) (by kernel_rfl) rfl rfl ⟨ct0, ct1, co⟩ (fun hHeld => ?_)
  have HR0' := Aside0.mk (Kd.C_drew (Kd.C_below HR0.out H6.out))
  have HR1' := Aside0.mk (Kd.C_drew (Kd.C_below HR1.out H6.out))
  have D1 := Aside0.mk (blk_drew H1.out)
  have D2 := Aside0.mk (blk_drew H2.out)
  have D3 := Aside0.mk (blk_drew H3.out)
  have D4 := Aside0.mk (blk_drew H4.out)
  have D5 := Aside0.mk (Kd.R_drew H5.out)
  have D6 := Aside0.mk (H6.out.drew)
  have D6' := Aside0.mk (show w.heap.size ≤ W.drew.heap.size from H6.out.size)
  have DK := Aside0.mk (show KeepsFrom W0.heap.size W W.drew from (KeepsOthers.drew _).from _)
  have DP := Aside0.mk (show Below w.heap.size W W.drew ∧ W.drew.heap = W.heap from ⟨(Below.refl _ _).drew, rfl⟩)
  clear ct0 ct1 co
  generalize W.drew = w1 at *
  refine pure_ (i := 2) (N := some 13) (v := ?_) (a' := ?_) #[false, false, true, false, false, false, false] rfl rfl (by kernel_rfl) (fun _ _ _ h => h) (Or.inl ⟨by rfl, ?_⟩) ?_ ?_
  rotate_left
  ·intro w'
   go_simp
   with_reducible rfl
  rotate_left
  ·simp only [Act.put, List.setIfInBounds_toArray, List.set_cons_zero, List.set_cons_succ]
   rfl
  refine take_ (i := 0) (N := some 11) (v := ?_) (a' := ?_) #[true, false, true, false, false, false, false] rfl rfl (by kernel_rfl) (fun _ _ _ h => h) (Or.inl ⟨by rfl, ?_⟩) hHeld ?_ ?_
  rotate_left
  ·rintro w' ⟨s0, s1, s2⟩
   go_simp
   with_reducible rfl
  rotate_left
  ·simp only [Act.put, List.setIfInBounds_toArray, List.set_cons_zero, List.set_cons_succ]
   rfl
  refine take_ (i := 1) (N := some 12) (v := ?_) (a' := ?_) #[true, true, true, false, false, false, false] rfl rfl (by kernel_rfl) (fun _ _ _ h => h) (Or.inl ⟨by rfl, ?_⟩) hHeld ?_ ?_
  rotate_left
  ·rintro w' ⟨s0, s1, s2⟩
   go_simp
   with_reducible rfl
  rotate_left
  ·simp only [Act.put, List.setIfInBounds_toArray, List.set_cons_zero, List.set_cons_succ]
   rfl
  refine one_ (i := 3) (N := some 14) #[true, true, true, true, false, false, false] rfl rfl (by kernel_rfl) (by decide) (fun K hK => ?_)
  refine goes_ Try.func16 (by kernel_rfl) rfl #[.agg #[.slice A0 l0.length c0, .slice A1 l1.length c1], .int .i64 x] (by rfl) rfl rfl (by (try simp only [List.map_toArray, List.map_cons, List.map_nil]); first | done | rfl) ?_
  with_reducible refine (tree_Symbol.calls 3 _ _ l0 _ _ l1 x (symP l0 l1 x) _ HR0'.out HC0.out HR1'.out HC1.out HS.out).mono ?_
  rintro e w2 ⟨rfl, hb⟩
  refine ⟨_, rfl, ?_⟩
  have E1 := Aside0.mk (blk_below D1.out hb)
  have E2 := Aside0.mk (blk_below D2.out hb)
  have E3 := Aside0.mk (blk_below D3.out hb)
  have E4 := Aside0.mk (blk_below D4.out hb)
  have E5 := Aside0.mk (Kd.R_below D5.out hb)
  have E6 := Aside0.mk (below_step D6.out hb)
  have EB := Aside0.mk hb
  refine hK.out _ _ ⟨(blk_cell E1.out 0).trans rfl, (blk_cell E1.out 1).trans rfl, (blk_cell E2.out 0).trans rfl⟩ (fun hHeld => ?_)
  clear hK K hb D1 D2 D3 D4 D5 D6
  refine norm_ (a' := ?_) ?_ ?_
  rotate_left
  ·show Act.put _ (some 14) _ = _
   simp only [Act.put, List.setIfInBounds_toArray, List.set_cons_zero, List.set_cons_succ]
   rfl
  refine one_ (i := 4) (N := some 15) #[true, true, true, true, true, false, false] rfl rfl (by kernel_rfl) (by decide) (fun K hK => ?_)
  refine value_ (w1 := ?_) (v := ?_) (by rfl) rfl ?_ ?_
  rotate_left 2
  ·go_simp
   constructor
   ·rfl
   ·rfl
  refine hK.out _ _ ⟨(blk_cell (blk_alloc E1.out _) 0).trans rfl, (blk_cell (blk_alloc E1.out _) 1).trans rfl, (blk_cell (blk_alloc E2.out _) 0).trans rfl⟩ (fun hHeld => ?_)
  clear hK K
  refine norm_ (a' := ?_) ?_ ?_
  rotate_left
  ·show Act.put _ (some 15) _ = _
   simp only [Act.put, List.setIfInBounds_toArray, List.set_cons_zero, List.set_cons_succ]
   rfl
  refine one_ (i := 5) (N := some 16) #[true, true, true, true, true, true, false] rfl rfl (by kernel_rfl) (by decide) (fun K hK => ?_)
  refine Kd.R_append_step (Kd.int .i64) (w0 := w) w.heap.size (by rfl) (.tmp 11) (.tmp 15) 29 3 (.int .i64 0) 8 rfl Try.underlying29 info3 rfl (by decide) (by omega) v (pre.map (symP l0 l1)) (symP l0 l1 x) [.int .i64 (symP l0 l1 x)] (fun k_ => k_ ≠ w.heap.size ∧ k_ ≠ w.heap.size + 1 ∧ k_ ≠ w.heap.size + 2 ∧ k_ ≠ w.heap.size + 3) (fun _ => False) rfl rfl ?aP (fun _ hk => hk.elim) ?aF ?aO ?aB ?aS ?aL ?_
  (case aP => exact rfl)
  (case aF => exact (fun k_ hk => ⟨Kd.freshB E1.out k_ hk, Kd.freshB E2.out k_ hk, Kd.freshB E3.out k_ hk, Kd.freshB E4.out k_ hk⟩))
  (case aO => exact E5.out)
  (case aB => exact E6.out)
  (case aS => exact E6.out.size)
  (case aL => have h8 := chain_length l1 l1.length (parOf l1 i); have h9 : pre.length < l1.length := Nat.lt_of_lt_of_le hlt h8; simp only [List.length_map]; omega)
  intro v1 w3 ho hb hg hat
  obtain ⟨Ao, co', eo⟩ := Kd.R_slice ho
  subst eo
  have F1 := Aside0.mk (blk_grown E1.out hg (Kd.R_away E5.out (fun _ hk => hk.1)))
  have F2 := Aside0.mk (blk_grown E2.out hg (Kd.R_away E5.out (fun _ hk => hk.2.1)))
  have F3 := Aside0.mk (blk_grown E3.out hg (Kd.R_away E5.out (fun _ hk => hk.2.2.1)))
  have F4 := Aside0.mk (blk_grown E4.out hg (Kd.R_away E5.out (fun _ hk => hk.2.2.2)))
  have F5 := Aside0.mk ho
  have F6 := Aside0.mk hb
  have FK := Aside0.mk (show KeepsFrom W0.heap.size W w3 from (DK.out.trans ((KeepsOthers.of_grownBy (grown_of_below EB.out none) (fun j o e _ => by cases e)).from _)).trans ((KeepsOthers.of_grownBy hg (fun j o ej hj => by
   obtain ⟨inner, hown⟩ := Kd.R_own E5.out
   obtain ⟨cells, hc⟩ := own_typed hown j ej
   rw [hc] at hj
   cases hj
   rfl)).from _))
  have FB := Aside0.mk (show Below w.heap.size W w3 from (DP.out.1.trans (EB.out.mono (by have := D6'.out; omega))).grown hg (by have := E6.out.size; omega) (fun k ek => by
   obtain ⟨inner, hown⟩ := Kd.R_own E5.out
   exact own_base hown k ek))
  clear ho hb hg hat
  refine hK.out _ _ ⟨(blk_cell F1.out 0).trans rfl, (blk_cell F1.out 1).trans rfl, (blk_cell F2.out 0).trans rfl⟩ (fun hHeld => ?_)
  clear hK K
  refine norm_ (a' := ?_) ?_ ?_
  rotate_left
  ·show Act.put _ (some 16) _ = _
   simp only [Act.put, List.setIfInBounds_toArray, List.set_cons_zero, List.set_cons_succ]
   rfl
  refine last_ (i := 6) (N := none) #[true, true, true, true, true, true, true] rfl rfl (by kernel_rfl) (by decide) (fun K hK => ?_)
  have cs6 : w3.cell? ⟨w.heap.size + 1, 0, none⟩ = some v := (blk_cell F2.out 0).trans rfl
  have fs6 := blk_frozen F2.out 0
  refine skip_ (w1 := ?_) (by rfl) rfl ?_ ?_
  rotate_left
  ·go_simp
   rfl
  refine hK.out _ _ ?_
  clear hK K
  refine done_ (by kernel_rfl) ?_
  have el : (pre.map (symP l0 l1) ++ [symP l0 l1 x]).length = pre.length + 1 := by simp
  have em : pre.map (symP l0 l1) ++ [symP l0 l1 x] = (pre ++ [x]).map (symP l0 l1) := by simp
  rw [← el]
  rw [em] at F5 ⊢
  have g1 := blk_far F1.out (p := ⟨w.heap.size + 1, 0, none⟩) (by simp) (.slice Ao ((pre ++ [x]).map (symP l0 l1)).length co')
  have g2 := blk_set F2.out 0 (.slice Ao ((pre ++ [x]).map (symP l0 l1)).length co')
  have g3 := blk_far F3.out (p := ⟨w.heap.size + 1, 0, none⟩) (by simp) (.slice Ao ((pre ++ [x]).map (symP l0 l1)).length co')
  have g4 := blk_far F4.out (p := ⟨w.heap.size + 1, 0, none⟩) (by simp) (.slice Ao ((pre ++ [x]).map (symP l0 l1)).length co')
  exact ⟨FK.out.trans ((KeepsOthers.setCell _ _ _).from _), ⟨FB.out.setCell (by simp) _, g3.trans H3.out.symm, g4.trans H4.out.symm⟩,
   _, g1, by simpa using g2, g3, g4, Kd.R_far F5.out (fun _ hk => hk.2.1) _, F6.out.setCell (by simp) _⟩
 case done =>
  rintro D ys W hD rfl hI hK
  have HI := Aside0.mk hI
  obtain ⟨v, h1, h2, h3, h4, h5, h6⟩ := hI
  have co : W.cell? ⟨w.heap.size + 1, 0, none⟩ = some v := (blk_cell h2 0).trans rfl
  have H5 := Aside0.mk h5
  have H6 := Aside0.mk h6
  have HK := Aside0.mk hK
  clear h1 h2 h3 h4 h5 h6 hK hb1 hb2 hb3 hb4 hbR hbB
  gi_wp2
  refine ⟨by simp, .inl ⟨_, _, rfl, run_takeDeferred HK.out, ?_⟩⟩
  refine ⟨_, results_tmp rfl _ _ _, v, rfl, ?_, H6.out.trans (belowK_b (w := w) (Nat.le_refl _) W D _ _ (by omega) HK.out rfl rfl)⟩
  refine Kd.R_mono (R_abides H5.out (grownBy_putObj' W D (.deferred none)) (fun r e => by cases e; exact ⟨_, HK.out, rfl⟩)) (fun _ _ => trivial)
 case stop =>
  rintro D c pre W _ _ h _
  exact h.elim
def tree_Up.f (l0_0 : List ByteArray) (l0_1 : List (S52)) (a1 : Int) : Option (List Int) := if l0_1.length < 17592186044416 then some ((aboves l0_1 a1).map (symP l0_0 l0_1)) else none
theorem tree_Up.calls (A0_0 : Option Addr) (c0_0 : Nat) (l0_0 : List ByteArray) (A0_1 : Option Addr) (c0_1 : Nat) (l0_1 : List (S52)) (a1 : Int) (r : List Int) (w : World) (hr0_0 : Kd.C Kd.string w A0_0 l0_0.length l0_0) (hc0_0 : l0_0.length ≤ c0_0) (hr0_1 : Kd.C k52 w A0_1 l0_1.length l0_1) (hc0_1 : l0_1.length ≤ c0_1) (h : tree_Up.f l0_0 l0_1 a1 = some r) :
  Calls Try.prog 24 #[.agg #[.slice A0_0 l0_0.length c0_0, .slice A0_1 l0_1.length c0_1], .int .i64 a1] w fun e w' => ∃ v0_ : Value, e = .returned (v0_) ∧ Kd.R (Kd.int .i64) 3 w' w.heap.size (fun _ => True) v0_ r ∧ Below w.heap.size w w' := by
 have hlen : l0_1.length < 17592186044416 := by
  unfold tree_Up.f at h
  split at h
  ·assumption
  ·cases h
 unfold tree_Up.f at h
 rw [if_pos hlen] at h
 obtain rfl := Option.some.inj h
 exact callsIn_wide.1 (up_in A0_0 c0_0 l0_0 A0_1 c0_1 l0_1 a1 w hr0_0 hc0_0 hr0_1 hc0_1 hlen)
end
def topiaryref11_point.f (a0 : Int) : Option (Bool) := if a0 ≥ 0 then (if a0 ≤ 1114111 then (if a0 < 55296 then (some true) else (some (decide (a0 > 57343)))) else (some false)) else (some false)
set_option maxHeartbeats 8000000 in
set_option maxRecDepth 100000 in
theorem topiaryref11_point.calls (a0 : Int) (r : Bool) (w : World) (h : topiaryref11_point.f a0 = some r) :
  Calls Try.prog 57 #[.int .i64 a0] w fun e w' => e = .returned (.bool r) ∧ Drawn0 w w' := by
 have H : (if a0 ≥ 0 then (if a0 ≤ 1114111 then (if a0 < 55296 then (some true) else (some (decide (a0 > 57343)))) else (some false)) else (some false)) = some r := h
 clear h
 by_cases c2 : a0 ≥ 0
 ·rw [if_pos c2] at H
  have c2b0 : decide (0 ≤ a0) = true := decide_eq_true c2
  clear c2
  by_cases c3 : a0 ≤ 1114111
  ·rw [if_pos c3] at H
   have c3b0 : decide (a0 ≤ 1114111) = true := decide_eq_true c3
   clear c3
   by_cases c4 : a0 < 55296
   ·rw [if_pos c4] at H
    have c4b0 : decide (a0 < 55296) = true := decide_eq_true c4
    clear c4
    obtain rfl := Option.some.inj H
    go_enter Try.func57, Try.ntmps57
    go_wp2
    go_ret
    exact ⟨sm_, dd_⟩
   ·rw [if_neg c4] at H
    have c4b0 : decide (a0 < 55296) = false := decide_eq_false c4
    clear c4
    obtain rfl := Option.some.inj H
    go_enter Try.func57, Try.ntmps57
    go_wp2
    go_ret
    exact ⟨sm_, dd_⟩
  ·rw [if_neg c3] at H
   have c3b0 : decide (a0 ≤ 1114111) = false := decide_eq_false c3
   clear c3
   obtain rfl := Option.some.inj H
   go_enter Try.func57, Try.ntmps57
   go_wp2
   go_ret
   exact ⟨sm_, dd_⟩
 ·rw [if_neg c2] at H
  have c2b0 : decide (0 ≤ a0) = false := decide_eq_false c2
  clear c2
  obtain rfl := Option.some.inj H
  go_enter Try.func57, Try.ntmps57
  go_wp2
  go_ret
  exact ⟨sm_, dd_⟩
def topiaryref11_Encode.f (a0 : Int) : Option (ByteArray) := (topiaryref11_point.f a0).bind fun t119 => (if t119 = true then (if a0 ≤ 127 then (some (strOfNums (([(a0) % 256] : List Int)))) else (if a0 ≤ 2047 then (some (strOfNums (([(wrap64 (192 + (wrap64 (Int.tdiv a0 64)))) % 256, (wrap64 (128 + (Int.tmod a0 64))) % 256] : List Int)))) else (if a0 ≤ 65535 then (some (strOfNums (([(wrap64 (224 + (wrap64 (Int.tdiv a0 4096)))) % 256, (wrap64 (128 + (wrap64 (Int.tdiv (Int.tmod a0 4096) 64)))) % 256, (wrap64 (128 + (Int.tmod a0 64))) % 256] : List Int)))) else (some (strOfNums (([(wrap64 (240 + (wrap64 (Int.tdiv a0 262144)))) % 256, (wrap64 (128 + (wrap64 (Int.tdiv (Int.tmod a0 262144) 4096)))) % 256, (wrap64 (128 + (wrap64 (Int.tdiv (Int.tmod a0 4096) 64)))) % 256, (wrap64 (128 + (Int.tmod a0 64))) % 256] : List Int))))))) else (some (⟨#[]⟩ : ByteArray)))
set_option maxHeartbeats 8000000 in
set_option maxRecDepth 100000 in
theorem topiaryref11_Encode.calls (a0 : Int) (r : ByteArray) (w : World) (h : topiaryref11_Encode.f a0 = some r) :
  Calls Try.prog 54 #[.int .i64 a0] w fun e w' => e = .returned (.string r) ∧ Below w.heap.size w w' := by
 have HB := Aside0.mk (Below.refl w.heap.size w)
 have H : ((topiaryref11_point.f a0).bind fun t119 => (if t119 = true then (if a0 ≤ 127 then (some (strOfNums (([(a0) % 256] : List Int)))) else (if a0 ≤ 2047 then (some (strOfNums (([(wrap64 (192 + (wrap64 (Int.tdiv a0 64)))) % 256, (wrap64 (128 + (Int.tmod a0 64))) % 256] : List Int)))) else (if a0 ≤ 65535 then (some (strOfNums (([(wrap64 (224 + (wrap64 (Int.tdiv a0 4096)))) % 256, (wrap64 (128 + (wrap64 (Int.tdiv (Int.tmod a0 4096) 64)))) % 256, (wrap64 (128 + (Int.tmod a0 64))) % 256] : List Int)))) else (some (strOfNums (([(wrap64 (240 + (wrap64 (Int.tdiv a0 262144)))) % 256, (wrap64 (128 + (wrap64 (Int.tdiv (Int.tmod a0 262144) 4096)))) % 256, (wrap64 (128 + (wrap64 (Int.tdiv (Int.tmod a0 4096) 64)))) % 256, (wrap64 (128 + (Int.tmod a0 64))) % 256] : List Int))))))) else (some (⟨#[]⟩ : ByteArray)))) = some r := h
 clear h
 replace H := Option.bind_eq_some_iff.mp H
 obtain ⟨t119, A20, H⟩ := H
 try dsimp only at H
 have A2 := Aside0.mk A20
 clear A20
 by_cases c3 : t119 = true
 ·subst c3
  rw [if_pos rfl] at H
  have H1 := H
  clear H
  have H := H1
  clear H1
  by_cases c4 : a0 ≤ 127
  ·rw [if_pos c4] at H
   have c4b0 : decide (a0 ≤ 127) = true := decide_eq_true c4
   clear c4
   obtain ⟨y120, hy120⟩ : ∃ y_ : List Int, y_ = (([(a0) % 256] : List Int)) := ⟨_, rfl⟩
   replace H : (some (strOfNums y120)) = some r := by first | (rw [hy120]; with_reducible exact H) | (have H2_ := (Option.bind_some _ _).symm.trans H; rw [hy120]; with_reducible exact H2_) | (have H2_ := (Option.bind_some _ _).symm.trans H; with_reducible exact H2_) | with_reducible exact H | (rw [hy120]; exact H) | exact H
   have Ny120 := Aside0.mk hy120
   clear hy120
   obtain rfl := Option.some.inj H
   go_enter Try.func54, Try.ntmps54
   go_wp2_with (first | ((with_reducible refine gate_callee (f := 57) rfl ?_); refine goesL_ (some 5) rfl rfl Try.func57 (by kernel_rfl) rfl #[.int .i64 a0] rfl ar_ ?_; (with_reducible refine (topiaryref11_point.calls a0 true _ A2.out).mono ?_); rintro e w' ⟨rfl, ⟨nd, rfl⟩⟩; refine ⟨_, rfl, ?_⟩) | ((with_reducible refine gate_dst (N := 12) rfl ?_); refine Kd.R_lit (Kd.int .u8) _ 5 ?hg (N := 12) ?hd (xs := ([(a0) % 256] : List Int)) (inner := [.int .u8 ((a0) % 256)]) (ok := fun _ => True) (okp := fun _ => True) ?hr ?hp (fun _ hk => hk) trivial (Below.refl _ _) (Nat.le_refl _) (by simp) ?_; (case hd => rfl); (case hg => rfl); (case hr => first | (go_simp; done) | (go_simp; rfl)); (case hp => exact (Reps.one (show Kd.M (Kd.int .u8) _ _ _ ((a0) % 256) [.int .u8 ((a0) % 256)] from rfl) (Reps.none _ _))); intro v121 w5 ho6 hb hg_ hnew_; clear hg_ hnew_; (first | rw [← Ny120.out] at ho6 | (simp only [Int.reduceToNat] at ho6; rw [← Ny120.out] at ho6)); have n0_ := Aside0.mk (Kd.R_lower ho6 (below_size (bb_ HB.out))); have n1_ := Aside0.mk (below_step (bb_ HB.out) hb); clear HB; have HO122 := n0_; have HB := n1_; clear n0_ n1_; clear hb ho6; have hcv7 := own_string (P := Try.prog) Try.underlying88 Try.underlying5 Try.underlying9 (Kd.own_of_R HO122.out)))
   go_ret
   exact ⟨by first | rfl | (simp [errW_none, errW_some] <;> rfl) | (simp [*, errW_none, errW_some] <;> rfl), bb_ HB.out⟩
  ·rw [if_neg c4] at H
   have c4b0 : decide (a0 ≤ 127) = false := decide_eq_false c4
   clear c4
   by_cases c8 : a0 ≤ 2047
   ·rw [if_pos c8] at H
    have c8b0 : decide (a0 ≤ 2047) = true := decide_eq_true c8
    clear c8
    obtain ⟨y123, hy123⟩ : ∃ y_ : List Int, y_ = (([(wrap64 (192 + (wrap64 (Int.tdiv a0 64)))) % 256, (wrap64 (128 + (Int.tmod a0 64))) % 256] : List Int)) := ⟨_, rfl⟩
    replace H : (some (strOfNums y123)) = some r := by first | (rw [hy123]; with_reducible exact H) | (have H2_ := (Option.bind_some _ _).symm.trans H; rw [hy123]; with_reducible exact H2_) | (have H2_ := (Option.bind_some _ _).symm.trans H; with_reducible exact H2_) | with_reducible exact H | (rw [hy123]; exact H) | exact H
    have Ny123 := Aside0.mk hy123
    clear hy123
    obtain rfl := Option.some.inj H
    go_enter Try.func54, Try.ntmps54
    go_wp2_with (first | ((with_reducible refine gate_callee (f := 57) rfl ?_); refine goesL_ (some 5) rfl rfl Try.func57 (by kernel_rfl) rfl #[.int .i64 a0] rfl ar_ ?_; (with_reducible refine (topiaryref11_point.calls a0 true _ A2.out).mono ?_); rintro e w' ⟨rfl, ⟨nd, rfl⟩⟩; refine ⟨_, rfl, ?_⟩) | ((with_reducible refine gate_dst (N := 24) rfl ?_); refine Kd.R_lit (Kd.int .u8) _ 5 ?hg (N := 24) ?hd (xs := ([(wrap64 (192 + (wrap64 (Int.tdiv a0 64)))) % 256, (wrap64 (128 + (Int.tmod a0 64))) % 256] : List Int)) (inner := [.int .u8 ((wrap64 (192 + (wrap64 (Int.tdiv a0 64)))) % 256), .int .u8 ((wrap64 (128 + (Int.tmod a0 64))) % 256)]) (ok := fun _ => True) (okp := fun _ => True) ?hr ?hp (fun _ hk => hk) trivial (Below.refl _ _) (Nat.le_refl _) (by simp) ?_; (case hd => rfl); (case hg => rfl); (case hr => first | (go_simp; done) | (go_simp; rfl)); (case hp => exact (Reps.one (show Kd.M (Kd.int .u8) _ _ _ ((wrap64 (192 + (wrap64 (Int.tdiv a0 64)))) % 256) [.int .u8 ((wrap64 (192 + (wrap64 (Int.tdiv a0 64)))) % 256)] from rfl) (Reps.one (show Kd.M (Kd.int .u8) _ _ _ ((wrap64 (128 + (Int.tmod a0 64))) % 256) [.int .u8 ((wrap64 (128 + (Int.tmod a0 64))) % 256)] from rfl) (Reps.none _ _)))); intro v124 w9 ho10 hb hg_ hnew_; clear hg_ hnew_; (first | rw [← Ny123.out] at ho10 | (simp only [Int.reduceToNat] at ho10; rw [← Ny123.out] at ho10)); have n0_ := Aside0.mk (Kd.R_lower ho10 (below_size (bb_ HB.out))); have n1_ := Aside0.mk (below_step (bb_ HB.out) hb); clear HB; have HO125 := n0_; have HB := n1_; clear n0_ n1_; clear hb ho10; have hcv11 := own_string (P := Try.prog) Try.underlying88 Try.underlying5 Try.underlying9 (Kd.own_of_R HO125.out)))
    go_ret
    exact ⟨by first | rfl | (simp [errW_none, errW_some] <;> rfl) | (simp [*, errW_none, errW_some] <;> rfl), bb_ HB.out⟩
   ·rw [if_neg c8] at H
    have c8b0 : decide (a0 ≤ 2047) = false := decide_eq_false c8
    clear c8
    by_cases c12 : a0 ≤ 65535
    ·rw [if_pos c12] at H
     have c12b0 : decide (a0 ≤ 65535) = true := decide_eq_true c12
     clear c12
     obtain ⟨y126, hy126⟩ : ∃ y_ : List Int, y_ = (([(wrap64 (224 + (wrap64 (Int.tdiv a0 4096)))) % 256, (wrap64 (128 + (wrap64 (Int.tdiv (Int.tmod a0 4096) 64)))) % 256, (wrap64 (128 + (Int.tmod a0 64))) % 256] : List Int)) := ⟨_, rfl⟩
     replace H : (some (strOfNums y126)) = some r := by first | (rw [hy126]; with_reducible exact H) | (have H2_ := (Option.bind_some _ _).symm.trans H; rw [hy126]; with_reducible exact H2_) | (have H2_ := (Option.bind_some _ _).symm.trans H; with_reducible exact H2_) | with_reducible exact H | (rw [hy126]; exact H) | exact H
     have Ny126 := Aside0.mk hy126
     clear hy126
     obtain rfl := Option.some.inj H
     go_enter Try.func54, Try.ntmps54
     go_wp2_with (first | ((with_reducible refine gate_callee (f := 57) rfl ?_); refine goesL_ (some 5) rfl rfl Try.func57 (by kernel_rfl) rfl #[.int .i64 a0] rfl ar_ ?_; (with_reducible refine (topiaryref11_point.calls a0 true _ A2.out).mono ?_); rintro e w' ⟨rfl, ⟨nd, rfl⟩⟩; refine ⟨_, rfl, ?_⟩) | ((with_reducible refine gate_dst (N := 41) rfl ?_); refine Kd.R_lit (Kd.int .u8) _ 5 ?hg (N := 41) ?hd (xs := ([(wrap64 (224 + (wrap64 (Int.tdiv a0 4096)))) % 256, (wrap64 (128 + (wrap64 (Int.tdiv (Int.tmod a0 4096) 64)))) % 256, (wrap64 (128 + (Int.tmod a0 64))) % 256] : List Int)) (inner := [.int .u8 ((wrap64 (224 + (wrap64 (Int.tdiv a0 4096)))) % 256), .int .u8 ((wrap64 (128 + (wrap64 (Int.tdiv (Int.tmod a0 4096) 64)))) % 256), .int .u8 ((wrap64 (128 + (Int.tmod a0 64))) % 256)]) (ok := fun _ => True) (okp := fun _ => True) ?hr ?hp (fun _ hk => hk) trivial (Below.refl _ _) (Nat.le_refl _) (by simp) ?_; (case hd => rfl); (case hg => rfl); (case hr => first | (go_simp; done) | (go_simp; rfl)); (case hp => exact (Reps.one (show Kd.M (Kd.int .u8) _ _ _ ((wrap64 (224 + (wrap64 (Int.tdiv a0 4096)))) % 256) [.int .u8 ((wrap64 (224 + (wrap64 (Int.tdiv a0 4096)))) % 256)] from rfl) (Reps.one (show Kd.M (Kd.int .u8) _ _ _ ((wrap64 (128 + (wrap64 (Int.tdiv (Int.tmod a0 4096) 64)))) % 256) [.int .u8 ((wrap64 (128 + (wrap64 (Int.tdiv (Int.tmod a0 4096) 64)))) % 256)] from rfl) (Reps.one (show Kd.M (Kd.int .u8) _ _ _ ((wrap64 (128 + (Int.tmod a0 64))) % 256) [.int .u8 ((wrap64 (128 + (Int.tmod a0 64))) % 256)] from rfl) (Reps.none _ _))))); intro v127 w13 ho14 hb hg_ hnew_; clear hg_ hnew_; (first | rw [← Ny126.out] at ho14 | (simp only [Int.reduceToNat] at ho14; rw [← Ny126.out] at ho14)); have n0_ := Aside0.mk (Kd.R_lower ho14 (below_size (bb_ HB.out))); have n1_ := Aside0.mk (below_step (bb_ HB.out) hb); clear HB; have HO128 := n0_; have HB := n1_; clear n0_ n1_; clear hb ho14; have hcv15 := own_string (P := Try.prog) Try.underlying88 Try.underlying5 Try.underlying9 (Kd.own_of_R HO128.out)))
     go_ret
     exact ⟨by first | rfl | (simp [errW_none, errW_some] <;> rfl) | (simp [*, errW_none, errW_some] <;> rfl), bb_ HB.out⟩
    ·rw [if_neg c12] at H
     have c12b0 : decide (a0 ≤ 65535) = false := decide_eq_false c12
     clear c12
     obtain ⟨y129, hy129⟩ : ∃ y_ : List Int, y_ = (([(wrap64 (240 + (wrap64 (Int.tdiv a0 262144)))) % 256, (wrap64 (128 + (wrap64 (Int.tdiv (Int.tmod a0 262144) 4096)))) % 256, (wrap64 (128 + (wrap64 (Int.tdiv (Int.tmod a0 4096) 64)))) % 256, (wrap64 (128 + (Int.tmod a0 64))) % 256] : List Int)) := ⟨_, rfl⟩
     replace H : (some (strOfNums y129)) = some r := by first | (rw [hy129]; with_reducible exact H) | (have H2_ := (Option.bind_some _ _).symm.trans H; rw [hy129]; with_reducible exact H2_) | (have H2_ := (Option.bind_some _ _).symm.trans H; with_reducible exact H2_) | with_reducible exact H | (rw [hy129]; exact H) | exact H
     have Ny129 := Aside0.mk hy129
     clear hy129
     obtain rfl := Option.some.inj H
     go_enter Try.func54, Try.ntmps54
     go_wp2_with (first | ((with_reducible refine gate_callee (f := 57) rfl ?_); refine goesL_ (some 5) rfl rfl Try.func57 (by kernel_rfl) rfl #[.int .i64 a0] rfl ar_ ?_; (with_reducible refine (topiaryref11_point.calls a0 true _ A2.out).mono ?_); rintro e w' ⟨rfl, ⟨nd, rfl⟩⟩; refine ⟨_, rfl, ?_⟩) | ((with_reducible refine gate_dst (N := 61) rfl ?_); refine Kd.R_lit (Kd.int .u8) _ 5 ?hg (N := 61) ?hd (xs := ([(wrap64 (240 + (wrap64 (Int.tdiv a0 262144)))) % 256, (wrap64 (128 + (wrap64 (Int.tdiv (Int.tmod a0 262144) 4096)))) % 256, (wrap64 (128 + (wrap64 (Int.tdiv (Int.tmod a0 4096) 64)))) % 256, (wrap64 (128 + (Int.tmod a0 64))) % 256] : List Int)) (inner := [.int .u8 ((wrap64 (240 + (wrap64 (Int.tdiv a0 262144)))) % 256), .int .u8 ((wrap64 (128 + (wrap64 (Int.tdiv (Int.tmod a0 262144) 4096)))) % 256), .int .u8 ((wrap64 (128 + (wrap64 (Int.tdiv (Int.tmod a0 4096) 64)))) % 256), .int .u8 ((wrap64 (128 + (Int.tmod a0 64))) % 256)]) (ok := fun _ => True) (okp := fun _ => True) ?hr ?hp (fun _ hk => hk) trivial (Below.refl _ _) (Nat.le_refl _) (by simp) ?_; (case hd => rfl); (case hg => rfl); (case hr => first | (go_simp; done) | (go_simp; rfl)); (case hp => exact (Reps.one (show Kd.M (Kd.int .u8) _ _ _ ((wrap64 (240 + (wrap64 (Int.tdiv a0 262144)))) % 256) [.int .u8 ((wrap64 (240 + (wrap64 (Int.tdiv a0 262144)))) % 256)] from rfl) (Reps.one (show Kd.M (Kd.int .u8) _ _ _ ((wrap64 (128 + (wrap64 (Int.tdiv (Int.tmod a0 262144) 4096)))) % 256) [.int .u8 ((wrap64 (128 + (wrap64 (Int.tdiv (Int.tmod a0 262144) 4096)))) % 256)] from rfl) (Reps.one (show Kd.M (Kd.int .u8) _ _ _ ((wrap64 (128 + (wrap64 (Int.tdiv (Int.tmod a0 4096) 64)))) % 256) [.int .u8 ((wrap64 (128 + (wrap64 (Int.tdiv (Int.tmod a0 4096) 64)))) % 256)] from rfl) (Reps.one (show Kd.M (Kd.int .u8) _ _ _ ((wrap64 (128 + (Int.tmod a0 64))) % 256) [.int .u8 ((wrap64 (128 + (Int.tmod a0 64))) % 256)] from rfl) (Reps.none _ _)))))); intro v130 w16 ho17 hb hg_ hnew_; clear hg_ hnew_; (first | rw [← Ny129.out] at ho17 | (simp only [Int.reduceToNat] at ho17; rw [← Ny129.out] at ho17)); have n0_ := Aside0.mk (Kd.R_lower ho17 (below_size (bb_ HB.out))); have n1_ := Aside0.mk (below_step (bb_ HB.out) hb); clear HB; have HO131 := n0_; have HB := n1_; clear n0_ n1_; clear hb ho17; have hcv18 := own_string (P := Try.prog) Try.underlying88 Try.underlying5 Try.underlying9 (Kd.own_of_R HO131.out)))
     go_ret
     exact ⟨by first | rfl | (simp [errW_none, errW_some] <;> rfl) | (simp [*, errW_none, errW_some] <;> rfl), bb_ HB.out⟩
 ·replace c3 := Bool.eq_false_iff.mpr c3
  subst c3
  rw [if_neg (show ¬ (false = true) by decide)] at H
  have H1 := H
  clear H
  have H := H1
  clear H1
  obtain rfl := Option.some.inj H
  go_enter Try.func54, Try.ntmps54
  go_wp2_with (first | ((with_reducible refine gate_callee (f := 57) rfl ?_); refine goesL_ (some 5) rfl rfl Try.func57 (by kernel_rfl) rfl #[.int .i64 a0] rfl ar_ ?_; (with_reducible refine (topiaryref11_point.calls a0 false _ A2.out).mono ?_); rintro e w' ⟨rfl, ⟨nd, rfl⟩⟩; refine ⟨_, rfl, ?_⟩))
  go_ret
  exact ⟨by first | rfl | (simp [errW_none, errW_some] <;> rfl) | (simp [*, errW_none, errW_some] <;> rfl), bb_ HB.out⟩
end Go.Proofs.Ytoanmoddppmffaa.T
