import Derived.Test.YtjkhnmhbbjgenaaEngS9
import Derived.Test.YtjkhnmhbbjgenaaS30
open Go Go.Proofs Eng
set_option maxRecDepth 100000
set_option linter.unusedSimpArgs false
set_option linter.unusedVariables false

namespace Sc
def hdR (h : Hd) : Prop := (axR h.ra h.aa ∧ axR h.re h.ae) ∧ drR h.home
instance (h : Hd) : Decidable (hdR h) := by unfold hdR; infer_instance
def ssR (ss : List St) : Prop := ss.length ≤ 60 ∧ ∀ s ∈ ss, stR s
instance (s : St) : Decidable (stR s) := by unfold stR; infer_instance
instance (ss : List St) : Decidable (ssR ss) := by unfold ssR; infer_instance
def flS (h : Hd) : Nat → Dr → List St → Option (Nat × Dr)
  | _, _, [] => none
  | n, d, s :: r => match litL h d (stD s) with
    | some x => some (n, x)
    | none => flS h (n + 1) (stD s) r
theorem flG_flS (h : Hd) : ∀ (ss : List St) (n : Nat) (d : Dr) (t : Int) (d' : Dr), flG h n d (visL h t d' ss) = flS h n d ss
  | [], _, _, _, _ => rfl
  | s :: r, n, d, t, d' => by
    rw [visL, flG, flS]
    have e : (⟨s.az, s.el⟩ : Dr) = stD s := rfl
    simp only [e]
    cases litL h d (stD s) with
    | some x => rfl
    | none => exact flG_flS h r (n + 1) (stD s) _ _
def fsB (h : Hd) (ss : List St) : Prop := ((h.res.length ≤ 1000 ∧ ∀ s ∈ h.res, seR s) ∧ drR h.home) ∧ ssR ss
instance (h : Hd) (ss : List St) : Decidable (fsB h ss) := by unfold fsB; infer_instance
end Sc
