import Derived.Test.YtiianhoefakcdaaEngS9
import Derived.Test.YtiianhoefakcdaaW12t
open Go Go.Proofs Eng
set_option maxRecDepth 100000
set_option linter.unusedSimpArgs false
set_option linter.unusedVariables false

namespace Wa
theorem k_TopWakeEnclosed (b d : Bx) (l : List Vo) (er ev : Int) (c : Co) : FOk P 3 [FL b l, eBx d, SE er ev c] (.bool true) := by
  by_cases hg : gTw b d l er ev c
  · rcases cpG_cases b d l hg.2.2.2.1 with ⟨hc, h0, hh, hp⟩ | ⟨j, hj, hc⟩
    · refine tw_main b d l er ev c hg ⟨h0, hh⟩ ?_ hc
      have lc : l = l[0] :: l.drop 1 := by
        have := List.drop_eq_getElem_cons h0
        rwa [List.drop_zero] at this
      have key : ∀ m : List Vo, m = l[0] :: l.drop 1 → ∀ k, ∀ h : k + 1 < m.length, stP d m[k] m[k + 1] := fun m e => by subst e; exact pgG_step hp
      exact key l lc
    · exact tw_err b d l er ev c hg j hj hc
  · exact tw_no b d l er ev c hg
theorem arFlown {n : Nat} {u : AV} (h : ArG P n 28 u) : ∃ (b : Bx) (l : List Vo), u = FL b l := by
  obtain ⟨us, rfl, hh⟩ := h.agg 6 (ks := [.i, .i, .i, .i, .i, .i, .sl true [.i, .i, .i]]) (by kernel_rfl) (by kernel_rfl)
  simp only [ShV, ShV1] at hh
  obtain ⟨_, _, rfl, ⟨a, rfl, _⟩, _, _, rfl, ⟨b, rfl, _⟩, _, _, rfl, ⟨c, rfl, _⟩, _, _, rfl, ⟨d, rfl, _⟩, _, _, rfl, ⟨e, rfl, _⟩, _, _, rfl, ⟨f, rfl, _⟩, _, _, rfl, ⟨l, rfl, hl, hlen⟩, rfl⟩ := hh
  obtain ⟨gs, e1, e2⟩ := sl_enc (α := Vo) eVo (ag := true) (fun p hp => by
    obtain ⟨_, _, rfl, ⟨a, rfl, _⟩, _, _, rfl, ⟨b, rfl, _⟩, _, _, rfl, ⟨c, rfl, _⟩, rfl⟩ := hp
    exact ⟨⟨a, b, c⟩, rfl⟩) hl
  rw [e1]
  exact ⟨⟨a, b, c, d, e, f⟩, gs, rfl⟩
theorem arSeen {n : Nat} {u : AV} (h : ArG P n 34 u) : ∃ (er ev : Int) (c : Co), u = SE er ev c := by
  obtain ⟨us, rfl, hh⟩ := h.agg 6 (ks := [.i, .i, .i, .i, .i, .i, .i, .i, .i]) (by kernel_rfl) (by kernel_rfl)
  simp only [ShV, ShV1] at hh
  obtain ⟨_, _, rfl, ⟨a, rfl, _⟩, _, _, rfl, ⟨b, rfl, _⟩, _, _, rfl, ⟨c, rfl, _⟩, _, _, rfl, ⟨d, rfl, _⟩, _, _, rfl, ⟨e, rfl, _⟩, _, _, rfl, ⟨f, rfl, _⟩, _, _, rfl, ⟨g, rfl, _⟩, _, _, rfl, ⟨i, rfl, _⟩, _, _, rfl, ⟨j, rfl, _⟩, rfl⟩ := hh
  exact ⟨a, b, ⟨c, d, e, f, g, i, j⟩, rfl⟩
theorem law3 (n0 : Nat) (u0 : AV) (a0 : ArG P n0 28 u0) (n1 : Nat) (u1 : AV) (a1 : ArG P n1 30 u1) (n2 : Nat) (u2 : AV) (a2 : ArG P n2 34 u2) : FOk P 3 [u0, u1, u2] (.bool true) := by
  obtain ⟨b, l, rfl⟩ := arFlown a0
  obtain ⟨us, rfl, hh⟩ := a1.agg 6 (ks := [.i, .i, .i, .i, .i, .i]) (by kernel_rfl) (by kernel_rfl)
  simp only [ShV, ShV1] at hh
  obtain ⟨_, _, rfl, ⟨a, rfl, _⟩, _, _, rfl, ⟨b', rfl, _⟩, _, _, rfl, ⟨c, rfl, _⟩, _, _, rfl, ⟨d, rfl, _⟩, _, _, rfl, ⟨e, rfl, _⟩, _, _, rfl, ⟨f, rfl, _⟩, rfl⟩ := hh
  obtain ⟨er, ev, co, rfl⟩ := arSeen a2
  exact k_TopWakeEnclosed b ⟨a, b', c, d, e, f⟩ l er ev co
end Wa
