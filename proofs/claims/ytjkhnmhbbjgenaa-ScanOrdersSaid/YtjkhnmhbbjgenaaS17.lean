import Derived.Test.YtjkhnmhbbjgenaaEngS9
import Derived.Test.YtjkhnmhbbjgenaaS16
import Derived.Test.YtjkhnmhbbjgenaaEngSE
open Go Go.Proofs Eng
set_option maxRecDepth 100000
set_option linter.unusedSimpArgs false
set_option linter.unusedVariables false

namespace Sc
theorem arHead {n : Nat} {u : AV} (h : ArG P n 42 u) : ∃ x : Hd, u = eHd x ∧ x.res.length ≤ maxLen := by
  obtain ⟨us, rfl, hh⟩ := h.agg 6 (ks := [.i, .i, .i, .i, .i, .i, .sl true [.i, .i, .i, .i]]) (by kernel_rfl) (by kernel_rfl)
  simp only [ShV, ShV1] at hh
  obtain ⟨_, _, rfl, ⟨a, rfl, _⟩, _, _, rfl, ⟨b, rfl, _⟩, _, _, rfl, ⟨c, rfl, _⟩, _, _, rfl, ⟨d, rfl, _⟩, _, _, rfl, ⟨e, rfl, _⟩, _, _, rfl, ⟨f, rfl, _⟩, _, _, rfl, ⟨l, rfl, hl, hlen⟩, rfl⟩ := hh
  obtain ⟨gs, e1, e2⟩ := sl_enc (α := Se) eSe (ag := true) (fun p hp => by
    obtain ⟨_, _, rfl, ⟨a, rfl, _⟩, _, _, rfl, ⟨b, rfl, _⟩, _, _, rfl, ⟨c, rfl, _⟩, _, _, rfl, ⟨d, rfl, _⟩, rfl⟩ := hp
    exact ⟨⟨a, b, c, d⟩, rfl⟩) hl
  rw [e1]
  exact ⟨⟨⟨a, b⟩, c, d, e, f, gs⟩, rfl, by simp only; rw [e2]; exact hlen⟩
end Sc
