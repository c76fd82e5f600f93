import Derived.Test.YtabkbhpeeefmgaaEngS9
import Derived.Test.YtabkbhpeeefmgaaW914
open Go Go.Proofs Eng
set_option maxRecDepth 100000
set_option linter.unusedSimpArgs false
set_option linter.unusedVariables false

namespace Wa
end Wa
open Go Go.Proofs Eng
set_option maxRecDepth 100000
set_option linter.unusedSimpArgs false
set_option linter.unusedVariables false
namespace Wa
def InvC (m : List L) (l0 : List L) : Option (List L × Int) → Prop
  | none => l0 = []
  | some (l', c) => l' = l0.filter (fun p => decide (cst m p = c)) ∧ ∀ p ∈ l0, c ≤ cst m p
theorem cp_inv1 (m : List L) (l0 : List L) (x : Option (List L × Int)) (p : L) (h : InvC m l0 x) : InvC m (l0 ++ [p]) (cpS m x p) := by
  cases x with
  | none =>
    have h : l0 = [] := h
    subst h
    rw [cpS]
    exact ⟨by simp, fun q hq => by rw [List.mem_singleton.1 hq]; exact Int.le_refl _⟩
  | some y =>
    obtain ⟨l', c⟩ := y
    obtain ⟨h1, h2⟩ := h
    rw [cpS]
    split
    · rename_i hlt
      refine ⟨?_, fun q hq => ?_⟩
      · rw [List.filter_append]
        have : l0.filter (fun q => decide (cst m q = cst m p)) = [] := List.filter_eq_nil_iff.2 fun q hq => by
          have := h2 q hq
          simp only [decide_eq_true_eq]
          omega
        rw [this]; simp
      · rcases List.mem_append.1 hq with hq | hq
        · have := h2 q hq; omega
        · rw [List.mem_singleton.1 hq]; exact Int.le_refl _
    · split
      · rename_i heq
        refine ⟨by rw [List.filter_append, ← h1]; simp [heq], fun q hq => ?_⟩
        rcases List.mem_append.1 hq with hq | hq
        · exact h2 q hq
        · rw [List.mem_singleton.1 hq]; omega
      · rename_i h3 h4
        refine ⟨by rw [List.filter_append, ← h1]; simp [h4], fun q hq => ?_⟩
        rcases List.mem_append.1 hq with hq | hq
        · exact h2 q hq
        · rw [List.mem_singleton.1 hq]; omega
theorem cp_inv (m : List L) : ∀ (l l0 : List L) (x : Option (List L × Int)), InvC m l0 x → InvC m (l0 ++ l) (l.foldl (cpS m) x)
  | [], l0, x, h => by rw [List.append_nil]; exact h
  | p :: l, l0, x, h => by
    have := cp_inv m l (l0 ++ [p]) (cpS m x p) (cp_inv1 m l0 x p h)
    rwa [List.append_assoc] at this
theorem chV_fil (m : List L) : (chV m).1 = (permG m.length m.length []).filter (fun p => decide (cst m p = (chV m).2)) := by
  obtain ⟨y, hy⟩ := cp_some m (permG m.length m.length []) none (.inl (perm_ne _))
  have h := cp_inv m (permG m.length m.length []) [] none rfl
  rw [hy] at h
  obtain ⟨l, c⟩ := y
  have hy' : chO m = some (l, c) := hy
  rw [chV, hy']
  exact h.1
end Wa
open Go Go.Proofs Eng
set_option maxRecDepth 100000
set_option linter.unusedSimpArgs false
set_option linter.unusedVariables false
namespace Wa
end Wa
