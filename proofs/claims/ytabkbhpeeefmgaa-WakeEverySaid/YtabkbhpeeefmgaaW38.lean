import Derived.Test.YtabkbhpeeefmgaaEngS9
import Derived.Test.YtabkbhpeeefmgaaW37
open Go Go.Proofs Eng
set_option maxRecDepth 100000
set_option linter.unusedSimpArgs false
set_option linter.unusedVariables false

namespace Wa
theorem arVortices {n : Nat} {u : AV} (h : ArG P n 34 u) : ∃ l : List Vo, u = .vs (l.map eVo) ∧ l.length ≤ maxLen := by
  have hh := h.one 6 (k := .sl true [.i, .i, .i]) (by kernel_rfl) (by kernel_rfl)
  simp only [ShV, ShV1] at hh
  obtain ⟨l, rfl, hl, hlen⟩ := hh
  obtain ⟨gs, e1, e2⟩ := sl_enc (α := Vo) eVo (ag := true) (fun p hp => by
    obtain ⟨_, _, rfl, ⟨a, rfl, _⟩, _, _, rfl, ⟨b, rfl, _⟩, _, _, rfl, ⟨c, rfl, _⟩, rfl⟩ := hp
    exact ⟨⟨a, b, c⟩, rfl⟩) hl
  rw [e1]
  exact ⟨gs, rfl, by rw [e2]; exact hlen⟩
end Wa
