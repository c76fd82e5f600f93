import Derived.Test.YtabkbhpeeefmgaaEngS9
import Derived.Test.YtabkbhpeeefmgaaW33
open Go Go.Proofs Eng
set_option maxRecDepth 100000
set_option linter.unusedSimpArgs false
set_option linter.unusedVariables false

namespace Wa
theorem arBox {n : Nat} {u : AV} (h : ArG P n 50 u) : ∃ b : Bx, u = eBx b := by
  obtain ⟨us, rfl, hh⟩ := h.agg 6 (ks := [.i, .i, .i, .i, .i, .i]) (by kernel_rfl) (by kernel_rfl)
  simp only [ShV, ShV1] at hh
  obtain ⟨_, _, rfl, ⟨a, rfl, _⟩, _, _, rfl, ⟨b', rfl, _⟩, _, _, rfl, ⟨c, rfl, _⟩, _, _, rfl, ⟨d, rfl, _⟩, _, _, rfl, ⟨e, rfl, _⟩, _, _, rfl, ⟨f, rfl, _⟩, rfl⟩ := hh
  exact ⟨⟨a, b', c, d, e, f⟩, rfl⟩
theorem arDrift {n : Nat} {u : AV} (h : ArG P n 52 u) : ∃ b : Bx, u = eBx b := by
  obtain ⟨us, rfl, hh⟩ := h.agg 6 (ks := [.i, .i, .i, .i, .i, .i]) (by kernel_rfl) (by kernel_rfl)
  simp only [ShV, ShV1] at hh
  obtain ⟨_, _, rfl, ⟨a, rfl, _⟩, _, _, rfl, ⟨b', rfl, _⟩, _, _, rfl, ⟨c, rfl, _⟩, _, _, rfl, ⟨d, rfl, _⟩, _, _, rfl, ⟨e, rfl, _⟩, _, _, rfl, ⟨f, rfl, _⟩, rfl⟩ := hh
  exact ⟨⟨a, b', c, d, e, f⟩, rfl⟩
theorem fE1 {e : Int} {l : List Int} (h : ¬ e = 0) : firstE (e :: l) = e := by
  unfold firstE; rw [if_neg h]
theorem fE0 {l : List Int} : firstE (0 :: l) = firstE l := rfl
end Wa
