import Derived.Test.YtjkhnmhbbjgenaaEngS9
import Derived.Test.YtjkhnmhbbjgenaaS41
open Go Go.Proofs Eng
set_option maxRecDepth 100000
set_option linter.unusedSimpArgs false
set_option linter.unusedVariables false

namespace Sc
theorem arDirs {n : Nat} {u : AV} (h : ArG P n 98 u) : ∃ l : List Dr, u = .vs (l.map eDr) := by
  have := h.one 5 (k := .sl true [.i, .i]) (by kernel_rfl) (by kernel_rfl)
  simp only [ShV1] at this
  obtain ⟨l, rfl, hl, _⟩ := this
  obtain ⟨gs, e1, _⟩ := sl_enc (α := Dr) eDr (ag := true) (fun p hp => by
    simp only [ShV, ShV1] at hp
    obtain ⟨_, _, rfl, ⟨a, rfl, _⟩, _, _, rfl, ⟨b, rfl, _⟩, rfl⟩ := hp
    exact ⟨⟨a, b⟩, rfl⟩) hl
  rw [e1]
  exact ⟨gs, rfl⟩
theorem arInts {n : Nat} {u : AV} (h : ArG P n 84 u) : ∃ l : List Int, u = .vs (l.map eI) := by
  have := h.one 5 (k := .sl false [.i]) (by kernel_rfl) (by kernel_rfl)
  simp only [ShV1] at this
  obtain ⟨l, rfl, hl, _⟩ := this
  obtain ⟨gs, e1, _⟩ := sl_enc (α := Int) eI (ag := false) (fun p hp => by
    simp only [ShV, ShV1] at hp
    obtain ⟨_, _, rfl, ⟨a, rfl, _⟩, rfl⟩ := hp
    exact ⟨a, rfl⟩) hl
  rw [e1]
  exact ⟨gs, rfl⟩
end Sc
