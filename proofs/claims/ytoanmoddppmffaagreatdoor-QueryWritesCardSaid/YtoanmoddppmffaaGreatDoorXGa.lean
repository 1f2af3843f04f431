/- A few steps: their names are short, their text is short. -/
import Derived.Test.YtoanmoddppmffaaGreatDoorXLb
import Derived.Test.YtoanmoddppmffaaGreatDoorXEb
import Derived.Test.YtoanmoddppmffaaGreatDoorXFd
import Derived.Test.YtoanmoddppmffaaGreatDoorXFe
import Derived.Laws.IdiomStrings
namespace Go.Proofs.YtoanmoddppmffaaGreatDoor.T
open Go.RowKit Go.Shelf Go.Proofs.YtoanmoddppmffaaGreatDoorW.PrintWords
set_option linter.unusedVariables false
set_option linter.unusedSimpArgs false
theorem few_len (d : Nat) (l : List Pred) : (fewP d l).length ≤ 3 := by
  cases d with
  | zero => simp [fewP]
  | succ d => rw [fewP_succ, List.length_map, List.length_take]; omega
theorem small_len (d : Nat) (l : List Step) : (smallL d l).length ≤ 4 := by rw [smallL, List.length_map, List.length_take]; omega
theorem few_nm : ∀ (d : Nat), (∀ l, nmPs (fewP d l)) ∧ ∀ l, nmSs (smallL d l) := by
  intro d
  induction d with
  | zero =>
    have h : ∀ l, nmPs (fewP 0 l) := fun l => by rw [fewP, nmPs]; trivial
    refine ⟨h, fun l => (nmSs_iff _).2 fun s hs => ?_⟩
    obtain ⟨x, _, rfl⟩ := List.mem_map.1 hs
    exact (nmS_eq _).2 ⟨Nat.le_trans (shortB_size _ _) (by decide), h x.preds⟩
  | succ d ih =>
    have h : ∀ l, nmPs (fewP (d + 1) l) := fun l => (nmPs_iff _).2 fun p hp => by
      rw [fewP_succ] at hp
      obtain ⟨x, _, rfl⟩ := List.mem_map.1 hp
      exact (nmP_eq _).2 ⟨⟨Nat.le_trans (small_len d _) (by decide), Nat.le_trans (few_len d _) (by decide)⟩, ih.2 _, ih.1 _⟩
    refine ⟨h, fun l => (nmSs_iff _).2 fun s hs => ?_⟩
    obtain ⟨x, _, rfl⟩ := List.mem_map.1 hs
    exact (nmS_eq _).2 ⟨Nat.le_trans (shortB_size _ _) (by decide), h x.preds⟩
theorem dec_len : ∀ (k u : Nat), u < 10 ^ (k + 1) → (Lib.decDigits u).length ≤ k + 1 := by
  intro k
  induction k with
  | zero => intro u hu; rw [Lib.decDigits, dif_pos (by omega)]; simp
  | succ k ih =>
    intro u hu
    rw [Lib.decDigits]
    split
    · simp
    · rw [List.length_append, List.length_singleton]
      have := ih (u / 10) (by rw [Nat.pow_succ] at hu; omega)
      omega
theorem pred_size (p : Pred) : (predT p).1.size ≤ (heldT p).1.size + 40 := by
  unfold predT
  split
  · omega
  split
  · show 0 ≤ _; omega
  · rename_i h1 h2
    have : (Lib.itoa p.n).length ≤ 8 := by
      unfold Lib.itoa
      rw [if_neg (by omega)]
      exact dec_len 7 _ (by have : (10 : Nat) ^ (7 + 1) = 100000000 := by decide
                            omega)
    rw [bs_size]; omega
theorem preds_size (Q : Nat) : ∀ l : List Pred, (∀ p ∈ l, (predT p).1.size ≤ Q) → (predsT l).1.size ≤ l.length * (2 + Q)
  | [], _ => by rw [predsT_nil]; show 0 ≤ _; omega
  | p :: l, h => by
    rw [predsT_cons]
    have h1 := preds_size Q l (fun q hq => h q (by simp [hq]))
    have h2 := h p (by simp)
    simp only [ByteArray.size_append, List.length_cons, Nat.succ_mul]
    have e1 : tLb.size = 1 := rfl
    have e2 : tRb.size = 1 := rfl
    omega
theorem head_size {axis : Int} {name h : ByteArray} (hh : headT axis name = some h) : h.size ≤ name.size + 6 := by
  unfold headT at hh
  split at hh
  · obtain rfl := Option.some.inj hh; show 1 ≤ _; omega
  split at hh
  · obtain rfl := Option.some.inj hh; show 2 ≤ _; omega
  split at hh
  · obtain rfl := Option.some.inj hh; show 6 ≤ _; omega
  split at hh
  · obtain rfl := Option.some.inj hh; rw [ByteArray.size_append]; show 1 + _ ≤ _; omega
  split at hh
  · obtain rfl := Option.some.inj hh; omega
  · cases hh
theorem step_size (s : Step) : (stepT s).1.size ≤ s.name.size + 6 + (predsT s.preds).1.size := by
  rw [stepT_eq]
  cases h : headT s.axis s.name with
  | none => show 0 ≤ _; omega
  | some x => have := head_size h; simp only [ByteArray.size_append]; omega
theorem sep_size (f d : Bool) : (sepT f d).size ≤ 2 := by cases f <;> cases d <;> decide
theorem row_size (Q : Nat) : ∀ (l : List Step) (f : Bool), (∀ s ∈ l, (stepT s).1.size ≤ Q) → (rowT f l).1.size ≤ l.length * (2 + Q)
  | [], f, _ => by rw [rowT_nil]; show 0 ≤ _; omega
  | s :: l, f, h => by
    rw [rowT_cons]
    have h1 := row_size Q l true (fun q hq => h q (by simp [hq]))
    have h2 := h s (by simp)
    have h3 := sep_size f s.deep
    simp only [ByteArray.size_append, List.length_cons, Nat.succ_mul]
    omega
theorem path_size (f : Bool) (l : List Step) : (pathT f l).1.size ≤ (rowT f l).1.size := by
  unfold pathT
  split
  · show 0 ≤ _; omega
  · omega
def hB : Nat → Nat
  | 0 => 0
  | d + 1 => 4 * (2 + (20 + 3 * (2 + (hB d + 40)))) + 2 * hB d + 20
theorem inP_size (b : Bool) (s : ByteArray) : (inP b s).size ≤ s.size + 2 := by
  unfold inP
  split
  · simp only [ByteArray.size_append]
    have e1 : tLp.size = 1 := rfl
    have e2 : tRp.size = 1 := rfl
    omega
  · omega
theorem held_size (p : Pred) (P A : Nat) (hp : (pathT false p.path).1.size ≤ P) (ha : ∀ a ∈ p.args, (heldT a).1.size ≤ A) : (heldT p).1.size ≤ P + 2 * A + 20 := by
  rw [heldT_eq]
  split
  · show 0 ≤ _; omega
  split
  · omega
  split
  · rename_i h
    match hq : p.args, h.2.1 with
    | [a], _ =>
      have := ha a (by rw [hq]; simp)
      have e1 : (⟨#[110, 111, 116, 40]⟩ : ByteArray).size = 4 := rfl
      have e2 : tRp.size = 1 := rfl
      simp only [ByteArray.size_append]
      omega
  split
  · rename_i h
    match hq : p.args, h.2.1 with
    | [a, b], _ =>
      have h1 := ha a (by rw [hq]; simp)
      have h2 := ha b (by rw [hq]; simp)
      have h3 := inP_size (([4] : List Int).contains a.kind) (heldT a).1
      have h4 := inP_size (([4, 3] : List Int).contains b.kind) (heldT b).1
      have e1 : (⟨#[32, 97, 110, 100, 32]⟩ : ByteArray).size = 5 := rfl
      simp only [aroundT, ByteArray.size_append]
      omega
  split
  · rename_i h
    match hq : p.args, h.2.1 with
    | [a, b], _ =>
      have h1 := ha a (by rw [hq]; simp)
      have h2 := ha b (by rw [hq]; simp)
      have h3 := inP_size (([] : List Int).contains a.kind) (heldT a).1
      have h4 := inP_size (([4] : List Int).contains b.kind) (heldT b).1
      have e1 : (⟨#[32, 111, 114, 32]⟩ : ByteArray).size = 4 := rfl
      simp only [aroundT, ByteArray.size_append]
      omega
  · show 0 ≤ _; omega
theorem small_size : ∀ d : Nat, (∀ l, ∀ p ∈ fewP d l, (heldT p).1.size ≤ hB d) ∧ ∀ f l, (pathT f (smallL d l)).1.size ≤ 4 * (2 + (20 + 3 * (2 + (hB d + 40)))) := by
  intro d
  have key : ∀ d, (∀ l, ∀ p ∈ fewP d l, (heldT p).1.size ≤ hB d) → ∀ f l, (pathT f (smallL d l)).1.size ≤ 4 * (2 + (20 + 3 * (2 + (hB d + 40)))) := by
    intro d hA f l
    refine Nat.le_trans (path_size _ _) (Nat.le_trans (row_size (20 + 3 * (2 + (hB d + 40))) _ _ (fun s hs => ?_)) (Nat.mul_le_mul_right _ (small_len d l)))
    obtain ⟨x, _, rfl⟩ := List.mem_map.1 hs
    have h1 := step_size (smallS d x)
    have h2 : (smallS d x).name.size ≤ 12 := shortB_size _ _
    have h3 := preds_size (hB d + 40) (fewP d x.preds) (fun p hp => Nat.le_trans (pred_size p) (by have := hA _ p hp; omega))
    have h4 := Nat.mul_le_mul_right (2 + (hB d + 40)) (few_len d x.preds)
    have h5 : (predsT (smallS d x).preds).1.size ≤ 3 * (2 + (hB d + 40)) := Nat.le_trans h3 h4
    omega
  induction d with
  | zero => exact ⟨fun l p hp => by simp [fewP] at hp, key 0 (fun l p hp => by simp [fewP] at hp)⟩
  | succ d ih =>
    have hA : ∀ l, ∀ p ∈ fewP (d + 1) l, (heldT p).1.size ≤ hB (d + 1) := by
      intro l p hp
      rw [fewP_succ] at hp
      obtain ⟨x, _, rfl⟩ := List.mem_map.1 hp
      exact held_size (fewQ d x) _ _ (ih.2 false _) (fun a ha => ih.1 _ a ha)
    exact ⟨hA, key (d + 1) hA⟩
theorem small4 (l : List Step) : nmSs (smallL 4 l) ∧ (pathT true (smallL 4 l)).1.size ≤ szMax :=
  ⟨(few_nm 4).2 l, Nat.le_trans ((small_size 4).2 true l) (by decide)⟩
end Go.Proofs.YtoanmoddppmffaaGreatDoor.T
namespace Go.Proofs.YtoanmoddppmffaaGreatDoor.T
open Go.RowKit Go.Shelf Go.Proofs.YtoanmoddppmffaaGreatDoorW.PrintWords
set_option linter.unusedVariables false
set_option linter.unusedSimpArgs false
def ddL (n : Nat) : List UInt8 := if n = 0 then [] else Lib.decDigits n
theorem ddL_step (n : Nat) (h : 0 < n) : ddL n = ddL (n / 10) ++ [UInt8.ofNat (48 + n % 10)] := by
  unfold ddL
  rw [if_neg (by omega), Lib.decDigits]
  split
  · rename_i h1
    rw [if_pos (by omega), Nat.mod_eq_of_lt h1]
    rfl
  · rw [if_neg (by omega)]
theorem ddL_itoa (n : Int) (h : 1 ≤ n) : Lib.itoa n = ddL n.toNat := by
  unfold Lib.itoa ddL
  rw [if_neg (by omega), if_neg (by omega)]
set_option maxHeartbeats 2000000 in
set_option maxRecDepth 100000 in
theorem digits_any (n : Int) (w : World) (h1 : 1 ≤ n) (h2 : n ≤ 9999999) : Calls Tryz.prog 48 #[.int .i64 n] w fun e w' => e = .returned (.string (bs (Lib.itoa n))) ∧ Below w.heap.size w w' := by
  obtain ⟨k, rfl⟩ : ∃ k : Nat, n = k := ⟨n.toNat, by omega⟩
  have HT : Aside0 (bs (ddL k) ++ (⟨#[]⟩ : ByteArray) = bs (Lib.itoa k)) := ⟨by rw [app_nil, ddL_itoa _ h1]; rfl⟩
  have hk : k ≤ 9999999 := by omega
  clear h1 h2
  go_enter Tryz.func48, Tryz.ntmps48
  go_wp2
  go_loopg [0, 3] k (fun gk nv sv wr => ∃ (m : Nat) (s : ByteArray), nv = .int .i64 m ∧ sv = .string s ∧ m ≤ k ∧ m ≤ gk ∧ s.size ≤ k - m ∧ Aside0 (bs (ddL m) ++ s = bs (Lib.itoa k) ∧ Below w.heap.size w wr))
  case atStart => exact ⟨k, ⟨#[]⟩, rfl, rfl, by omega, by omega, by show 0 ≤ _; omega, ⟨HT.out, Below.refl _ _⟩⟩
  case round =>
    obtain ⟨m, s, rfl, rfl, hmk, hmg, hs, H⟩ := hrel
    have hm0 : (0 : Int) ≤ (m : Int) := by omega
    by_cases hz : 0 < m
    · have hz' : (0 : Int) < (m : Int) := by omega
      have hd : (48 + m % 10 : Nat) < 256 := by omega
      have hbA : Below wr.heap.size wr (wr.alloc (.cells #[.int .u8 (48 + (m : Int) % 10)] 5)) := below_alloc (Below.refl _ _) _
      have hcell : (wr.alloc (.cells #[.int .u8 (48 + (m : Int) % 10)] 5)).cell? ⟨wr.heap.size, 0, none⟩ = some (.int .u8 (48 + (m : Int) % 10)) := (blk_cell (blk_new wr _) 0).trans rfl
      have hv0 : (UInt8.ofNat (48 + m % 10)).toNat = 48 + m % 10 := UInt8.toNat_ofNat'.trans (Nat.mod_eq_of_lt hd)
      have hv : ((UInt8.ofNat (48 + m % 10)).toNat : Int) = 48 + (m : Int) % 10 := by rw [hv0]; omega
      clear hv0
      have hcv : (convert 56 9 (.slice (some ⟨wr.heap.size, 0, none⟩) 1 1)).run Tryz.prog (wr.alloc (.cells #[.int .u8 (48 + (m : Int) % 10)] 5)) = .ok (.string ⟨#[UInt8.ofNat (48 + m % 10)]⟩) (wr.alloc (.cells #[.int .u8 (48 + (m : Int) % 10)] 5)) :=
        run_convert_bytes_back _ 56 9 5 ⟨wr.heap.size, 0, none⟩ 1 [UInt8.ofNat (48 + m % 10)] Tryz.underlying56 Tryz.underlying5 Tryz.underlying9 (fun j hj => by
          match j, hj with
          | 0, _ =>
            rw [add_plain, hcell]
            exact congrArg (fun z => some (Value.int .u8 z)) hv.symm)
      have HB := Aside0.mk (below_step H.out.2 hbA)
      have HN : Aside0 (bs (ddL (m / 10)) ++ ((⟨#[UInt8.ofNat (48 + m % 10)]⟩ : ByteArray) ++ s) = bs (Lib.itoa k)) := ⟨by
        rw [← H.out.1, ddL_step m hz, ← ByteArray.append_assoc]
        congr 1⟩
      have hsz : ¬ 9223372036854775807 < 1 + s.size := by omega
      generalize UInt8.ofNat (48 + m % 10) = bt at hcv HN hv
      clear hbA hcell hv
      go_wp2
      go_roundg (m / 10)
      case measure => omega
      case rel => exact ⟨m / 10, _, congrArg (Value.int .i64) (by omega), rfl, by omega, by omega, by rw [ByteArray.size_append]; show 1 + _ ≤ _; omega, ⟨HN.out, HB.out⟩⟩
    · obtain rfl : m = 0 := by omega
      have hz' : ¬ (0 : Int) < ((0 : Nat) : Int) := by omega
      have HP : Aside0 (s = bs (Lib.itoa k) ∧ Below w.heap.size w wr) := ⟨by rw [← H.out.1]; exact (nil_app s).symm, H.out.2⟩
      go_wp2
      go_ret
      exact ⟨by rw [HP.out.1]; rfl, HP.out.2⟩
end Go.Proofs.YtoanmoddppmffaaGreatDoor.T
