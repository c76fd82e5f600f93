import Derived.Test.YtabkbhpeeefmgaaEngS9
import Derived.Test.YtabkbhpeeefmgaaW925
open Go Go.Proofs Eng
set_option maxRecDepth 100000
set_option linter.unusedSimpArgs false
set_option linter.unusedVariables false

namespace Wa
theorem arInt4 {n : Nat} {u : AV} (h : ArG P n 3 u) : ∃ m, u = I m := by
  have hh := h.one 6 (k := .i) (by kernel_rfl) (by kernel_rfl)
  simp only [ShV1] at hh
  obtain ⟨m, rfl, _⟩ := hh
  exact ⟨m, rfl⟩
theorem law4 (n0 : Nat) (u0 : AV) (a0 : ArG P n0 22 u0) (n1 : Nat) (u1 : AV) (a1 : ArG P n1 3 u1) : FOk P 4 [u0, u1] (.bool true) := by
  obtain ⟨l, rfl, h1, h2⟩ := arScans a0
  obtain ⟨n, rfl⟩ := arInt4 a1
  exact k_WakeFollowed l n ⟨h1, h2⟩
end Wa
