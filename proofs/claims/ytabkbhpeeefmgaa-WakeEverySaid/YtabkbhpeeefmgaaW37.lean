import Derived.Test.YtabkbhpeeefmgaaEngS9
import Derived.Test.YtabkbhpeeefmgaaW36
open Go Go.Proofs Eng
set_option maxRecDepth 100000
set_option linter.unusedSimpArgs false
set_option linter.unusedVariables false

namespace Wa
theorem cpE_mv {b d : Bx} {l : List Vo} (h : mvE b d = 0) : cpE b d l = firstE [unl (0 < (l.length : Int)) 10, unl ((l.length : Int) ≤ 1001) 8] := by
  rw [mvE_first] at h
  have z := firstE_zero h
  rw [cpE, z (bxE b) (by simp), z (dfE d) (by simp), fE0, fE0]
end Wa
