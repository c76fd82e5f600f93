import Derived.Test.YtjfhhaaogcgkpaaC12
import Derived.Test.YtjfhhaaogcgkpaaEngS8
open Go Go.Proofs Eng
set_option maxRecDepth 100000
set_option linter.unusedSimpArgs false
set_option linter.unusedVariables false

namespace Sh
theorem law3 (u0 u1 : AV) (a0 : ArV (.agg [.i, .i, .i, .i]) u0) (a1 : ArV (.agg [.i, .i, .i, .i, .i, .i, .i]) u1) : FOk P 3 [u0, u1] (.bool true) := by
  obtain ⟨us, rfl, h⟩ := a0
  obtain ⟨vs, rfl, h'⟩ := a1
  obtain ⟨_, _, rfl, ⟨r, rfl, _⟩, _, _, rfl, ⟨n, rfl, _⟩, _, _, rfl, ⟨k, rfl, _⟩, _, _, rfl, ⟨v, rfl, _⟩, rfl⟩ := h
  obtain ⟨_, _, rfl, ⟨a, rfl, _⟩, _, _, rfl, ⟨b, rfl, _⟩, _, _, rfl, ⟨c, rfl, _⟩, _, _, rfl, ⟨d, rfl, _⟩, _, _, rfl, ⟨e, rfl, _⟩, _, _, rfl, ⟨f, rfl, _⟩, _, _, rfl, ⟨g, rfl, _⟩, rfl⟩ := h'
  exact k3 g14 r n k v a b c d e f g
end Sh
