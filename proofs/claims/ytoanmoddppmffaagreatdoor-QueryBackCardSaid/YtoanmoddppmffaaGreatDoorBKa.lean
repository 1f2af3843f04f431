/- Spaces behind brackets change no sign. -/
import Derived.Test.YtoanmoddppmffaaGreatDoorBJb
namespace Go.Proofs.YtoanmoddppmffaaGreatDoor.T
set_option linter.unusedVariables false
def isBr (c : UInt8) : Bool := c == 91 || c == 93 || c == 40 || c == 41 || c == 64
inductive Sprd : List UInt8 → List UInt8 → Prop
  | nil : Sprd [] []
  | keep (c : UInt8) {s t : List UInt8} (h : Sprd s t) : Sprd (c :: s) (c :: t)
  | ins (c x : UInt8) {s t : List UInt8} (hc : isBr c = true) (hx : isSp x = true) (h : Sprd s t) : Sprd (c :: s) (c :: x :: t)
theorem Sprd.app {a b a' b' : List UInt8} (h : Sprd a b) (h' : Sprd a' b') : Sprd (a ++ a') (b ++ b') := by
  induction h with
  | nil => exact h'
  | keep c _ ih => exact .keep c ih
  | ins c x hc hx _ ih => exact .ins c x hc hx ih
theorem Sprd.refl : ∀ l : List UInt8, Sprd l l
  | [] => .nil
  | c :: l => .keep c (Sprd.refl l)
theorem br_cases {c : UInt8} (h : isBr c = true) : c = 91 ∨ c = 93 ∨ c = 40 ∨ c = 41 ∨ c = 64 := by
  unfold isBr at h
  simp only [Bool.or_eq_true, beq_iff_eq] at h
  rcases h with (((h | h) | h) | h) | h <;> simp [h]
theorem br_sp {c : UInt8} (h : isBr c = true) : isSp c = false := by rcases br_cases h with rfl | rfl | rfl | rfl | rfl <;> decide
theorem br_mo {c : UInt8} (h : isBr c = true) : isMo c = false := by rcases br_cases h with rfl | rfl | rfl | rfl | rfl <;> decide
theorem br_al {c : UInt8} (h : isBr c = true) : isAl c = false := by rcases br_cases h with rfl | rfl | rfl | rfl | rfl <;> decide
theorem br_dg {c : UInt8} (h : isBr c = true) : isDg c = false := by rcases br_cases h with rfl | rfl | rfl | rfl | rfl <;> decide
theorem sign_br {c : UInt8} (l : List UInt8) (h : isBr c = true) : signL (c :: l) = some (bs [c]) := by
  rcases br_cases h with rfl | rfl | rfl | rfl | rfl <;> simp [signL, sigs, tDs, tDd, tSl, tDot, tStar, tAt, tLb, tRb, tLp, tRp, List.isPrefixOf, bs]
theorem lexQ_drop (l : List UInt8) : lexQ (l.drop (skipL l)) = lexQ l := by
  have hs : ∀ l : List UInt8, skipL (l.drop (skipL l)) = 0 := by
    intro l
    induction l with
    | nil => rfl
    | cons c l ih =>
      by_cases hc : isSp c = true
      · simp only [skipL, if_pos hc, List.drop_succ_cons]; exact ih
      · simp only [skipL, if_neg hc, List.drop_zero]
  rw [lexQ_eq, lexQ_eq l, hs, List.drop_zero]
theorem lexQ_sp (x : UInt8) (l : List UInt8) (hx : isSp x = true) : lexQ (x :: l) = lexQ l := by
  rw [← lexQ_drop (x :: l), ← lexQ_drop l]
  simp only [skipL, if_pos hx, List.drop_succ_cons]
end Go.Proofs.YtoanmoddppmffaaGreatDoor.T
