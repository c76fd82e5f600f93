import Derived.Test.YtjkhnmhbbjgenaaEngS9
import Derived.Test.YtjkhnmhbbjgenaaS14
open Go Go.Proofs Eng
set_option maxRecDepth 100000

namespace Sc
theorem v1 : tfV 3 1 20 = .tup [I 9, I 0] := by kernel_rfl
theorem v2 : duV aHd aSt = .tup [I 72, I 0] := by kernel_rfl
theorem v3 : gpV aHd aSt ⟨12, 4, 2⟩ = .tup [I 59, I 0] := by kernel_rfl
theorem v4 : flV ⟨⟨0, 0⟩, 3, 1, 3, 1, [⟨15, 16, 0, 10⟩]⟩ aSt = .tup [I 2, .agg [I 15, I 5], I 0] := by kernel_rfl
theorem v5 : ooV aHd [⟨20, 0⟩, ⟨10, 0⟩] = .tup [.vs [I 1, I 0], I 12, I 0] := by kernel_rfl
end Sc
