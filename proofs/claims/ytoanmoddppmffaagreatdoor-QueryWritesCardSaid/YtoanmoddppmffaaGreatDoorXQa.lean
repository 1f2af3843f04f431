/- Steps and what must hold: the data, and how they lie in memory. -/
import Derived.Test.YtoanmoddppmffaaGreatDoorXWWords
namespace Go.Proofs.YtoanmoddppmffaaGreatDoor.T
open Go.RowKit Go.Proofs.YtoanmoddppmffaaGreatDoorW.PrintWords
set_option linter.unusedVariables false
structure StepOf (P : Type) where
  deep : Bool
  axis : Int
  name : ByteArray
  preds : List P
structure Pred where
  kind : Int
  n : Int
  path : List (StepOf Pred)
  args : List Pred
abbrev Step := StepOf Pred
def RowAt {α : Type} (K : α → List Value → Prop) (ok : Nat → Prop) (w : World) (A : Option Addr) (xs : List α) : Prop :=
  ∀ j x, xs[j]? = some x → ∃ ad cs, A = some ad ∧ ok ad.block ∧ cs.length = 4 ∧ (∀ i u, cs[i]? = some u → w.cell? (ad.add (j * 4 + i)) = some u) ∧ K x cs
def SlAt {α : Type} (K : α → List Value → Prop) (ok : Nat → Prop) (w : World) (v : Value) (xs : List α) : Prop :=
  ∃ A c, v = .slice A xs.length c ∧ xs.length ≤ c ∧ c ≤ maxLen ∧ RowAt K ok w A xs
mutual
def stepR (ok : Nat → Prop) (w : World) : Nat → Step → List Value → Prop
  | 0, _, _ => False
  | n + 1, x, cs => ∃ v, cs = [.bool x.deep, .int .i64 x.axis, .string x.name, v] ∧ SlAt (predR ok w n) ok w v x.preds
def predR (ok : Nat → Prop) (w : World) : Nat → Pred → List Value → Prop
  | 0, _, _ => False
  | n + 1, x, cs => ∃ v u, cs = [.int .i64 x.kind, .int .i64 x.n, v, u] ∧ SlAt (stepR ok w n) ok w v x.path ∧ SlAt (predR ok w n) ok w u x.args
end
def StepR (ok : Nat → Prop) (w : World) (x : Step) (cs : List Value) : Prop := ∃ n, stepR ok w n x cs
def PredR (ok : Nat → Prop) (w : World) (x : Pred) (cs : List Value) : Prop := ∃ n, predR ok w n x cs
def StepsR (ok : Nat → Prop) (w : World) (v : Value) (xs : List Step) : Prop := ∃ n, SlAt (stepR ok w n) ok w v xs
def PredsR (ok : Nat → Prop) (w : World) (v : Value) (xs : List Pred) : Prop := ∃ n, SlAt (predR ok w n) ok w v xs
section
variable {α : Type} {K K' : α → List Value → Prop} {ok ok' : Nat → Prop} {w w' : World} {v : Value} {xs : List α} {A : Option Addr}
theorem RowAt.imp_ (h : RowAt K ok w A xs) (hm : ∀ k, ok k → w'.heap[k]? = w.heap[k]?) (ho : ∀ k, ok k → ok' k) (hK : ∀ x cs, x ∈ xs → K x cs → K' x cs) : RowAt K' ok' w' A xs := by
  intro j x hj
  obtain ⟨ad, cs, e, hok, hl, hc, hk⟩ := h j x hj
  refine ⟨ad, cs, e, ho _ hok, hl, fun i u hi => ?_, hK x cs (List.mem_of_getElem? hj) hk⟩
  exact (World.cell?_of_block (by rw [add_block]; exact hm _ hok)).trans (hc i u hi)
theorem SlAt.imp_ (h : SlAt K ok w v xs) (hm : ∀ k, ok k → w'.heap[k]? = w.heap[k]?) (ho : ∀ k, ok k → ok' k) (hK : ∀ x cs, x ∈ xs → K x cs → K' x cs) : SlAt K' ok' w' v xs := by
  obtain ⟨A, c, e, hl, hc, hr⟩ := h
  exact ⟨A, c, e, hl, hc, hr.imp_ hm ho hK⟩
theorem SlAt.bound (h : SlAt K ok w v xs) (hK : ∀ x cs, x ∈ xs → K x cs → K' x cs) : SlAt K' (fun k => ok k ∧ k < w.heap.size) w v xs := by
  obtain ⟨A, c, e, hl, hc, hr⟩ := h
  refine ⟨A, c, e, hl, hc, fun j x hj => ?_⟩
  obtain ⟨ad, cs, e, hok, hl, hc, hk⟩ := hr j x hj
  refine ⟨ad, cs, e, ⟨hok, ?_⟩, hl, hc, hK x cs (List.mem_of_getElem? hj) hk⟩
  have := World.block_lt_of_cell? w _ (hc 0 _ (List.getElem?_eq_getElem (by omega)))
  rwa [add_block] at this
theorem SlAt.nil (K : α → List Value → Prop) (ok : Nat → Prop) (w : World) : SlAt K ok w (.slice none 0 0) [] := ⟨none, 0, rfl, Nat.le_refl _, by decide, fun j x h => by simp at h⟩
theorem SlAt.slice (h : SlAt K ok w v xs) : ∃ A c, v = .slice A xs.length c ∧ xs.length ≤ c ∧ c ≤ maxLen := by
  obtain ⟨A, c, e, hl, hc, _⟩ := h
  exact ⟨A, c, e, hl, hc⟩
end
section
variable {ok ok' : Nat → Prop} {w w' : World}
mutual
theorem stepR_imp (hm : ∀ k, ok k → w'.heap[k]? = w.heap[k]?) (ho : ∀ k, ok k → ok' k) : ∀ (n m : Nat), n ≤ m → ∀ (x : Step) (cs : List Value), stepR ok w n x cs → stepR ok' w' m x cs
  | 0, _, _, _, _, h => by simp only [stepR] at h
  | n + 1, 0, hl, _, _, _ => by omega
  | n + 1, m + 1, hl, x, cs, h => by
    simp only [stepR] at h ⊢
    obtain ⟨v, e, hs⟩ := h
    exact ⟨v, e, hs.imp_ hm ho (fun y c _ hy => predR_imp hm ho n m (by omega) y c hy)⟩
theorem predR_imp (hm : ∀ k, ok k → w'.heap[k]? = w.heap[k]?) (ho : ∀ k, ok k → ok' k) : ∀ (n m : Nat), n ≤ m → ∀ (x : Pred) (cs : List Value), predR ok w n x cs → predR ok' w' m x cs
  | 0, _, _, _, _, h => by simp only [predR] at h
  | n + 1, 0, hl, _, _, _ => by omega
  | n + 1, m + 1, hl, x, cs, h => by
    simp only [predR] at h ⊢
    obtain ⟨v, u, e, hs, hp⟩ := h
    exact ⟨v, u, e, hs.imp_ hm ho (fun y c _ hy => stepR_imp hm ho n m (by omega) y c hy), hp.imp_ hm ho (fun y c _ hy => predR_imp hm ho n m (by omega) y c hy)⟩
end
mutual
theorem stepR_bound : ∀ (n : Nat) (x : Step) (cs : List Value), stepR ok w n x cs → stepR (fun k => ok k ∧ k < w.heap.size) w n x cs
  | 0, _, _, h => by simp only [stepR] at h
  | n + 1, x, cs, h => by
    simp only [stepR] at h ⊢
    obtain ⟨v, e, hs⟩ := h
    exact ⟨v, e, hs.bound (fun y c _ hy => predR_bound n y c hy)⟩
theorem predR_bound : ∀ (n : Nat) (x : Pred) (cs : List Value), predR ok w n x cs → predR (fun k => ok k ∧ k < w.heap.size) w n x cs
  | 0, _, _, h => by simp only [predR] at h
  | n + 1, x, cs, h => by
    simp only [predR] at h ⊢
    obtain ⟨v, u, e, hs, hp⟩ := h
    exact ⟨v, u, e, hs.bound (fun y c _ hy => stepR_bound n y c hy), hp.bound (fun y c _ hy => predR_bound n y c hy)⟩
end
theorem StepsR.imp_ {v : Value} {xs : List Step} (h : StepsR ok w v xs) (hm : ∀ k, ok k → w'.heap[k]? = w.heap[k]?) (ho : ∀ k, ok k → ok' k) : StepsR ok' w' v xs := by
  obtain ⟨n, h⟩ := h
  exact ⟨n, h.imp_ hm ho (fun x cs _ hx => stepR_imp hm ho n n (Nat.le_refl _) x cs hx)⟩
theorem PredsR.imp_ {v : Value} {xs : List Pred} (h : PredsR ok w v xs) (hm : ∀ k, ok k → w'.heap[k]? = w.heap[k]?) (ho : ∀ k, ok k → ok' k) : PredsR ok' w' v xs := by
  obtain ⟨n, h⟩ := h
  exact ⟨n, h.imp_ hm ho (fun x cs _ hx => predR_imp hm ho n n (Nat.le_refl _) x cs hx)⟩
theorem StepR.imp_ {x : Step} {cs : List Value} (h : StepR ok w x cs) (hm : ∀ k, ok k → w'.heap[k]? = w.heap[k]?) (ho : ∀ k, ok k → ok' k) : StepR ok' w' x cs := by
  obtain ⟨n, h⟩ := h
  exact ⟨n, stepR_imp hm ho n n (Nat.le_refl _) x cs h⟩
theorem PredR.imp_ {x : Pred} {cs : List Value} (h : PredR ok w x cs) (hm : ∀ k, ok k → w'.heap[k]? = w.heap[k]?) (ho : ∀ k, ok k → ok' k) : PredR ok' w' x cs := by
  obtain ⟨n, h⟩ := h
  exact ⟨n, predR_imp hm ho n n (Nat.le_refl _) x cs h⟩
theorem StepR.bound {x : Step} {cs : List Value} (h : StepR ok w x cs) : StepR (fun k => ok k ∧ k < w.heap.size) w x cs := by
  obtain ⟨n, h⟩ := h
  exact ⟨n, stepR_bound n x cs h⟩
theorem PredR.bound {x : Pred} {cs : List Value} (h : PredR ok w x cs) : PredR (fun k => ok k ∧ k < w.heap.size) w x cs := by
  obtain ⟨n, h⟩ := h
  exact ⟨n, predR_bound n x cs h⟩
theorem StepsR.bound {v : Value} {xs : List Step} (h : StepsR ok w v xs) : StepsR (fun k => ok k ∧ k < w.heap.size) w v xs := by
  obtain ⟨n, h⟩ := h
  exact ⟨n, h.bound (fun x cs _ hx => stepR_bound n x cs hx)⟩
theorem PredsR.bound {v : Value} {xs : List Pred} (h : PredsR ok w v xs) : PredsR (fun k => ok k ∧ k < w.heap.size) w v xs := by
  obtain ⟨n, h⟩ := h
  exact ⟨n, h.bound (fun x cs _ hx => predR_bound n x cs hx)⟩
theorem StepsR.nil (ok : Nat → Prop) (w : World) : StepsR ok w (.slice none 0 0) [] := ⟨0, SlAt.nil _ _ _⟩
theorem PredsR.nil (ok : Nat → Prop) (w : World) : PredsR ok w (.slice none 0 0) [] := ⟨0, SlAt.nil _ _ _⟩
theorem StepR.mk_ {x : Step} {v : Value} (h : PredsR ok w v x.preds) : StepR ok w x [.bool x.deep, .int .i64 x.axis, .string x.name, v] := by
  obtain ⟨n, h⟩ := h
  refine ⟨n + 1, ?_⟩
  simp only [stepR]
  exact ⟨v, rfl, h⟩
theorem StepR.open_ {x : Step} {cs : List Value} (h : StepR ok w x cs) : ∃ v, cs = [.bool x.deep, .int .i64 x.axis, .string x.name, v] ∧ PredsR ok w v x.preds := by
  obtain ⟨n, h⟩ := h
  cases n with
  | zero => simp only [stepR] at h
  | succ n => simp only [stepR] at h; obtain ⟨v, e, h⟩ := h; exact ⟨v, e, n, h⟩
theorem PredR.mk_ {x : Pred} {v u : Value} (h : StepsR ok w v x.path) (h' : PredsR ok w u x.args) : PredR ok w x [.int .i64 x.kind, .int .i64 x.n, v, u] := by
  obtain ⟨n, h⟩ := h
  obtain ⟨m, h'⟩ := h'
  refine ⟨n + m + 1, ?_⟩
  simp only [predR]
  exact ⟨v, u, rfl, h.imp_ (fun _ _ => rfl) (fun _ hk => hk) (fun x cs _ hx => stepR_imp (fun _ _ => rfl) (fun _ hk => hk) n (n + m) (by omega) x cs hx),
    h'.imp_ (fun _ _ => rfl) (fun _ hk => hk) (fun x cs _ hx => predR_imp (fun _ _ => rfl) (fun _ hk => hk) m (n + m) (by omega) x cs hx)⟩
theorem PredR.open_ {x : Pred} {cs : List Value} (h : PredR ok w x cs) : ∃ v u, cs = [.int .i64 x.kind, .int .i64 x.n, v, u] ∧ StepsR ok w v x.path ∧ PredsR ok w u x.args := by
  obtain ⟨n, h⟩ := h
  cases n with
  | zero => simp only [predR] at h
  | succ n => simp only [predR] at h; obtain ⟨v, u, e, h, h'⟩ := h; exact ⟨v, u, e, ⟨n, h⟩, ⟨n, h'⟩⟩
end
def OwnR {α : Type} (K : (Nat → Prop) → World → α → List Value → Prop) (e : TypeId) (base : Nat) (w : World) (v : Value) (xs : List α) : Prop :=
  ∃ inner, w.ownsRow base e 4 v xs.length inner ∧ ∀ j x, xs[j]? = some x → K (fun k => base ≤ k ∧ some k ≠ v.ownBlock) w x ((inner.drop (j * 4)).take 4)
structure Movable {α : Type} (K : (Nat → Prop) → World → α → List Value → Prop) : Prop where
  imp_ : ∀ {ok ok' : Nat → Prop} {w w' : World} {x : α} {cs : List Value}, K ok w x cs → (∀ k, ok k → w'.heap[k]? = w.heap[k]?) → (∀ k, ok k → ok' k) → K ok' w' x cs
  bound : ∀ {ok : Nat → Prop} {w : World} {x : α} {cs : List Value}, K ok w x cs → K (fun k => ok k ∧ k < w.heap.size) w x cs
  len : ∀ {ok : Nat → Prop} {w : World} {x : α} {cs : List Value}, K ok w x cs → cs.length = 4 ∧ ∀ u ∈ cs, u.oneCell' = true
theorem movS : Movable StepR := ⟨fun h => h.imp_, fun h => h.bound, fun h => by
  obtain ⟨v, rfl, n, A, c, rfl, _⟩ := h.open_
  exact ⟨rfl, fun u hu => by simp at hu; rcases hu with rfl | rfl | rfl | rfl <;> rfl⟩⟩
theorem movP : Movable PredR := ⟨fun h => h.imp_, fun h => h.bound, fun h => by
  obtain ⟨v, u, rfl, ⟨n, A, c, rfl, _⟩, m, B, d, rfl, _⟩ := h.open_
  exact ⟨rfl, fun u hu => by simp at hu; rcases hu with rfl | rfl | rfl | rfl <;> rfl⟩⟩
section
variable {α : Type} {K : (Nat → Prop) → World → α → List Value → Prop} {e : TypeId} {base : Nat} {w w' : World} {v : Value} {xs : List α}
theorem OwnR.nil (K : (Nat → Prop) → World → α → List Value → Prop) (e : TypeId) (base : Nat) (w : World) : OwnR K e base w (.slice none 0 0) [] := ⟨[], World.ownsRow_nil _ _ _ _, fun j x h => by simp at h⟩
theorem OwnR.slice (h : OwnR K e base w v xs) : ∃ A c, v = .slice A xs.length c ∧ xs.length ≤ c := by
  obtain ⟨inner, ho, _⟩ := h
  obtain ⟨A, c, rfl⟩ := own_slice ho
  exact ⟨A, c, rfl, own_le ho⟩
theorem OwnR.move (M : Movable K) (h : OwnR K e base w v xs) (hm : ∀ k, base ≤ k → k < w.heap.size → w'.heap[k]? = w.heap[k]?) : OwnR K e base w' v xs := by
  obtain ⟨inner, ho, hk⟩ := h
  refine ⟨inner, own_move ho (fun k hk => hm k (own_base ho k hk) (own_lt ho k hk)), fun j x hj => ?_⟩
  exact M.imp_ (M.bound (hk j x hj)) (fun k hk => hm k hk.1.1 hk.2) (fun k hk => hk.1)
theorem OwnR.grown (M : Movable K) (h : OwnR K e base w v xs) {g : Nat} (hg : w.grownBy w' (some g)) (hb : g < base) : OwnR K e base w' v xs :=
  h.move M (fun k hk hl => hg.block k hl (fun e => by injection e; omega))
theorem OwnR.below (M : Movable K) (h : OwnR K e base w v xs) (hb : Below w.heap.size w w') : OwnR K e base w' v xs := h.move M (fun k _ hl => hb.block k hl)
theorem OwnR.appended (M : Movable K) {W0 : World} {x : α} {ys : List Value} {inner : List Value} {v1 : Value} {w1 : World}
    (hk : ∀ j x, xs[j]? = some x → K (fun k => base ≤ k ∧ some k ≠ v.ownBlock) w x ((inner.drop (j * 4)).take 4)) (ho : w.ownsRow base e 4 v xs.length inner)
    (hx : K (fun k => base ≤ k ∧ some k ≠ v.ownBlock) w x ys) (h1 : w1.ownsRow base e 4 v1 (xs.length + 1) (inner ++ ys)) (hg : w.grownBy w1 v.ownBlock) (hat : v1.ownBlock = v.ownBlock ∨ ∃ b, v1.ownBlock = some b ∧ w.heap.size ≤ b) :
    OwnR K e base w1 v1 (xs ++ [x]) := by
  have key : ∀ {y : α} {cs : List Value}, K (fun k => base ≤ k ∧ some k ≠ v.ownBlock) w y cs → K (fun k => base ≤ k ∧ some k ≠ v1.ownBlock) w1 y cs := fun hy =>
    M.imp_ (M.bound hy) (fun k hk => hg.block k hk.2 hk.1.2) (fun k hk => ⟨hk.1.1, by
      rcases hat with hat | ⟨b, hb, hle⟩
      · rw [hat]; exact hk.1.2
      · rw [hb]; intro he; injection he with he; have := hk.2; omega⟩)
  have hil : inner.length = xs.length * 4 := ho.1
  refine ⟨inner ++ ys, by simpa using h1, fun j y hj => ?_⟩
  rcases Nat.lt_or_ge j xs.length with hlt | hge
  · rw [List.getElem?_append_left hlt] at hj
    have h2 := key (hk j y hj)
    rwa [List.drop_append_of_le_length (by omega), List.take_append_of_le_length (by rw [List.length_drop]; omega)]
  · have hj' : j = xs.length := by
      have := (List.getElem?_eq_some_iff.1 hj).1
      rw [List.length_append, List.length_singleton] at this
      omega
    subst hj'
    have hq : x = y := by simpa using hj
    subst hq
    have h2 := key hx
    have hyl := (M.len hx).1
    rwa [← hil, List.drop_left, ← hyl, List.take_length]
theorem OwnR.row (M : Movable K) (h : OwnR K e base w v xs) : ∃ A c, v = .slice A xs.length c ∧ xs.length ≤ c ∧ c ≤ maxLen ∧ RowAt (K (fun k => base ≤ k) w) (fun k => base ≤ k) w A xs := by
  obtain ⟨inner, ho, hk⟩ := h
  have hcap : ∃ A c, v = .slice A xs.length c ∧ xs.length ≤ c ∧ c ≤ maxLen := by
    rcases ho.2 with ⟨rfl, h0⟩ | ⟨g, cap, cur, rfl, _, _, h1, h2, _⟩
    · exact ⟨none, 0, by rw [h0], by omega, by decide⟩
    · exact ⟨_, _, rfl, h1, h2⟩
  obtain ⟨A, c, rfl, hl, hc⟩ := hcap
  refine ⟨A, c, rfl, hl, hc, fun j x hj => ?_⟩
  have hjl := (List.getElem?_eq_some_iff.1 hj).1
  obtain ⟨g, cap, he, hb, _⟩ := ho.form (by omega)
  injection he with he1 he2 he3
  subst he1
  have hil : inner.length = xs.length * 4 := ho.1
  have hlen : ((inner.drop (j * 4)).take 4).length = 4 := by rw [List.length_take, List.length_drop]; omega
  refine ⟨⟨g, 0, none⟩, _, rfl, hb, hlen, fun i u hi => ?_, M.imp_ (hk j x hj) (fun _ _ => rfl) (fun k hk => hk.1)⟩
  refine ho.cells (g := g) rfl _ u ?_
  rw [List.getElem?_take] at hi
  split at hi
  · rw [List.getElem?_drop] at hi
    exact hi
  · cases hi
end
theorem RowAt.depth {α : Type} {Kn : Nat → α → List Value → Prop} (up : ∀ n m, n ≤ m → ∀ x cs, Kn n x cs → Kn m x cs) {ok : Nat → Prop} {w : World} {A : Option Addr} {xs : List α} (h : RowAt (fun x cs => ∃ n, Kn n x cs) ok w A xs) : ∃ n, RowAt (Kn n) ok w A xs := by
  have hup : ∀ m, m ≤ xs.length → ∃ n, ∀ j x, j < m → xs[j]? = some x → ∃ ad cs, A = some ad ∧ ok ad.block ∧ cs.length = 4 ∧ (∀ i u, cs[i]? = some u → w.cell? (ad.add (j * 4 + i)) = some u) ∧ Kn n x cs := by
    intro m
    induction m with
    | zero => intro _; exact ⟨0, fun j x hj _ => by omega⟩
    | succ m ih =>
      intro hm
      obtain ⟨n, hn⟩ := ih (by omega)
      obtain ⟨ad, cs, e1, hok, hl, hc, p, hp⟩ := h m _ (List.getElem?_eq_getElem (by omega))
      refine ⟨n + p, fun j x hj hx => ?_⟩
      rcases Nat.lt_or_ge j m with hlt | hge
      · obtain ⟨ad', cs', e2, hok', hl', hc', hs⟩ := hn j x hlt hx
        exact ⟨ad', cs', e2, hok', hl', hc', up n (n + p) (by omega) _ _ hs⟩
      · obtain rfl : j = m := by omega
        rw [List.getElem?_eq_getElem (by omega)] at hx
        obtain rfl := Option.some.inj hx
        exact ⟨ad, cs, e1, hok, hl, hc, up p (n + p) (by omega) _ _ hp⟩
  obtain ⟨n, hn⟩ := hup xs.length (Nat.le_refl _)
  exact ⟨n, fun j x hj => hn j x (List.getElem?_eq_some_iff.1 hj).1 hj⟩
theorem OwnR.steps {e : TypeId} {base : Nat} {w : World} {v : Value} {xs : List Step} (h : OwnR StepR e base w v xs) : StepsR (fun k => base ≤ k) w v xs := by
  obtain ⟨A, c, rfl, hl, hc, hr⟩ := h.row movS
  obtain ⟨n, hn⟩ := RowAt.depth (Kn := stepR (fun k => base ≤ k) w) (fun n m hnm x cs hx => stepR_imp (fun _ _ => rfl) (fun _ h => h) n m hnm x cs hx) hr
  exact ⟨n, A, c, rfl, hl, hc, hn⟩
theorem OwnR.preds {e : TypeId} {base : Nat} {w : World} {v : Value} {xs : List Pred} (h : OwnR PredR e base w v xs) : PredsR (fun k => base ≤ k) w v xs := by
  obtain ⟨A, c, rfl, hl, hc, hr⟩ := h.row movP
  obtain ⟨n, hn⟩ := RowAt.depth (Kn := predR (fun k => base ≤ k) w) (fun n m hnm x cs hx => predR_imp (fun _ _ => rfl) (fun _ h => h) n m hnm x cs hx) hr
  exact ⟨n, A, c, rfl, hl, hc, hn⟩
end Go.Proofs.YtoanmoddppmffaaGreatDoor.T
