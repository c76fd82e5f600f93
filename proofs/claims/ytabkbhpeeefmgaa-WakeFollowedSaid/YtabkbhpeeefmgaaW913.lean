import Derived.Test.YtabkbhpeeefmgaaEngS9
import Derived.Test.YtabkbhpeeefmgaaW912
open Go Go.Proofs Eng
set_option maxRecDepth 100000
set_option linter.unusedSimpArgs false
set_option linter.unusedVariables false

namespace Wa
theorem fE1 {e : Int} {l : List Int} (h : ¬ e = 0) : firstE (e :: l) = e := by
  unfold firstE; rw [if_neg h]
theorem fE0 {l : List Int} : firstE (0 :: l) = firstE l := rfl
end Wa
open Go Go.Proofs Eng
set_option maxRecDepth 100000
set_option linter.unusedSimpArgs false
set_option linter.unusedVariables false
namespace Wa
theorem firstE_one (e : Int) : firstE [e] = e := by
  by_cases h : e = 0
  · rw [h]; rfl
  · exact fE1 h
end Wa
open Go Go.Proofs Eng
set_option maxRecDepth 100000
set_option linter.unusedSimpArgs false
set_option linter.unusedVariables false
namespace Wa
end Wa
