import Derived.Test.YtjkhnmhbbjgenaaEngS9
import Derived.Test.YtjkhnmhbbjgenaaS30
open Go Go.Proofs Eng
set_option maxRecDepth 100000
set_option linter.unusedSimpArgs false
set_option linter.unusedVariables false

namespace Sc
def hdR (h : Hd) : Prop := (axR h.ra h.aa ∧ axR h.re h.ae) ∧ drR h.home
instance (h : Hd) : Decidable (hdR h) := by unfold hdR; infer_instance
def ssR (ss : List St) : Prop := ss.length ≤ 60 ∧ ∀ s ∈ ss, stR s
instance (s : St) : Decidable (stR s) := by unfold stR; infer_instance
instance (ss : List St) : Decidable (ssR ss) := by unfold ssR; infer_instance
def fsB (h : Hd) (ss : List St) : Prop := ((h.res.length ≤ 1000 ∧ ∀ s ∈ h.res, seR s) ∧ drR h.home) ∧ ssR ss
instance (h : Hd) (ss : List St) : Decidable (fsB h ss) := by unfold fsB; infer_instance
end Sc
