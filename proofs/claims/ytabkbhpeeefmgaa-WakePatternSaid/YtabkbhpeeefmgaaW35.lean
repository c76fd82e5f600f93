import Derived.Test.YtabkbhpeeefmgaaEngS9
import Derived.Test.YtabkbhpeeefmgaaW34
open Go Go.Proofs Eng
set_option maxRecDepth 100000
set_option linter.unusedSimpArgs false
set_option linter.unusedVariables false

namespace Wa
theorem firstE_one (e : Int) : firstE [e] = e := by
  by_cases h : e = 0
  · rw [h]; rfl
  · exact fE1 h
end Wa
