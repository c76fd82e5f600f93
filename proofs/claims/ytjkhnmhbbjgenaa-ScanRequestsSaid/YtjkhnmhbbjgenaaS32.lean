import Derived.Test.YtjkhnmhbbjgenaaEngS9
import Derived.Test.YtjkhnmhbbjgenaaS31
open Go Go.Proofs Eng
set_option maxRecDepth 100000
set_option linter.unusedSimpArgs false
set_option linter.unusedVariables false

namespace Sc
theorem vsE_val (h : Hd) (l : Sps) : vsE h l = if hdE h = 0 then (ckC l).2 else hdE h := by
  unfold vsE
  simp only [firstE]
  by_cases h1 : hdE h = 0
  · rw [if_pos h1, if_pos h1]
    by_cases h2 : (ckC l).2 = 0
    · rw [if_pos h2, h2]
    · rw [if_neg h2]
  · rw [if_neg h1, if_neg h1]
/-- what is right of a right program -/
theorem runs_ok {h : Hd} {l : Sps} (h0 : vsE h l = 0) : hdR h ∧ ssR (stopsAll 2 l) ∧ fsB h (stopsAll 2 l) := by
  obtain ⟨hc, hh⟩ := vsE_home h0
  have hz := hdE_zero hh
  obtain ⟨hk, h60⟩ := ckC_ok hc
  have hs : ssR (stopsAll 2 l) := ⟨h60, stops_ok hk⟩
  exact ⟨⟨⟨hz.1.1.2.1, hz.1.1.2.2⟩, hz.1.1.1⟩, hs, ⟨⟨⟨by have := hz.1.2; omega, fun s hs => (hz.2.1 s hs).1⟩, hz.1.1.1⟩, hs⟩⟩
theorem vsL_last {h : Hd} {l : Sps} (h0 : vsE h l = 0) : ∃ x, (vsL h l).getLast? = some x ∧ durL h l = x.to := by
  have hp := ckC_pos (vsE_home h0).1
  have hlen : (vsL h l).length = (stopsAll 2 l).length := visL_len h _ _ _
  unfold durL
  cases hx : (vsL h l).getLast? with
  | none => rw [List.getLast?_eq_none_iff] at hx; rw [hx] at hlen; simp at hlen; omega
  | some x => exact ⟨x, rfl, rfl⟩
end Sc
