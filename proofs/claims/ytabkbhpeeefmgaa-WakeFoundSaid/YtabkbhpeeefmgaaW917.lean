import Derived.Test.YtabkbhpeeefmgaaEngS9
import Derived.Test.YtabkbhpeeefmgaaW916
import Derived.Test.YtabkbhpeeefmgaaW914
open Go Go.Proofs Eng
set_option maxRecDepth 100000
set_option linter.unusedSimpArgs false
set_option linter.unusedVariables false

namespace Wa
theorem szV_nn (n : Int) : 0 ≤ szV n := by unfold szV; omega
theorem mfS_ge (p : Pa) (s : Su) : ∀ (l : List Rg) (a : Int), a ≤ mfS p s a l
  | [], a => Int.le_refl _
  | r :: l, a => by
    rw [mfS]
    have h1 := szV_nn (prV p s ⟨r.y, r.z⟩ - r.p)
    have h2 := mfS_ge p s l (a + szV (prV p s ⟨r.y, r.z⟩ - r.p))
    omega
theorem mfV_nn (p : Pa) (s : Su) (l : List Rg) : 0 ≤ mfV p s l := mfS_ge p s l 0
/-- what the fold keeps: the first with the least misfit -/
structure BsI (s : Su) (rd : List Rg) (l0 : List Pa) (c : Pa × Int) : Prop where
  e : l0 ≠ [] → c.1 ∈ l0 ∧ c.2 = mfV c.1 s rd ∧ ∀ p ∈ l0, c.2 ≤ mfV p s rd
  n : l0 = [] → c.2 < 0
  f : l0 ≠ [] → c.2 = 0 → (l0.filter fun p => decide (mfV p s rd ≤ 0)).head? = some c.1
theorem bs_step {s : Su} {rd : List Rg} {l0 : List Pa} {c : Pa × Int} (h : BsI s rd l0 c) (p : Pa) : BsI s rd (l0 ++ [p]) (stB c (p, mfV p s rd)) := by
  have hp := mfV_nn p s rd
  unfold stB
  by_cases h0 : l0 = []
  · subst h0
    have hn := h.n rfl
    rw [if_pos (.inl hn)]
    refine ⟨fun _ => ⟨by simp, rfl, fun q hq => ?_⟩, fun e => by simp at e, fun _ e => ?_⟩
    · simp only [List.nil_append, List.mem_singleton] at hq
      subst hq; exact Int.le_refl _
    · simp only at e
      simp [e]
  · obtain ⟨h1, h2, h3⟩ := h.e h0
    have hc : 0 ≤ c.2 := by rw [h2]; exact mfV_nn _ _ _
    split
    · rename_i hlt
      simp only at hlt
      have hlt : mfV p s rd < c.2 := by omega
      refine ⟨fun _ => ⟨by simp, rfl, fun q hq => ?_⟩, fun e => by simp at e, fun _ e => ?_⟩
      · rcases List.mem_append.1 hq with hq | hq
        · have := h3 q hq; simp only; omega
        · rw [List.mem_singleton.1 hq]; exact Int.le_refl _
      · simp only at e ⊢
        have hf : l0.filter (fun p => decide (mfV p s rd ≤ 0)) = [] := List.filter_eq_nil_iff.2 fun q hq => by
          have := h3 q hq
          simp only [decide_eq_true_eq]
          omega
        rw [List.filter_append, hf]
        simp [e]
    · rename_i hge
      simp only at hge
      refine ⟨fun _ => ⟨by simp [h1], h2, fun q hq => ?_⟩, fun e => by simp at e, fun _ e => ?_⟩
      · rcases List.mem_append.1 hq with hq | hq
        · exact h3 q hq
        · rw [List.mem_singleton.1 hq]; omega
      · have := h.f h0 e
        rw [List.filter_append, List.head?_append, this]; rfl
theorem bs_all {s : Su} {rd : List Rg} : ∀ (l l0 : List Pa) (c : Pa × Int), BsI s rd l0 c → BsI s rd (l0 ++ l) (l.foldl (fun c p => stB c (p, mfV p s rd)) c)
  | [], l0, c, h => by rw [List.append_nil]; exact h
  | p :: l, l0, c, h => by
    have := bs_all l (l0 ++ [p]) _ (bs_step h p)
    rwa [List.append_assoc] at this
theorem bsL_ok (x : Sr) : BsI x.su x.rd (prL x) (bsL x) := by
  have := bs_all (s := x.su) (rd := x.rd) (prL x) [] (zPa, -1) ⟨fun e => absurd rfl e, fun _ => by decide, fun e => absurd rfl e⟩
  exact this
end Wa
open Go Go.Proofs Eng
set_option maxRecDepth 100000
set_option linter.unusedSimpArgs false
set_option linter.unusedVariables false
namespace Wa
end Wa
open Go Go.Proofs Eng
set_option maxRecDepth 100000
set_option linter.unusedSimpArgs false
set_option linter.unusedVariables false
namespace Wa
end Wa
open Go Go.Proofs Eng
set_option maxRecDepth 100000
set_option linter.unusedSimpArgs false
set_option linter.unusedVariables false
namespace Wa
theorem l_CopyReadings (l : List Rg) (hl : l.length ≤ 1000) : ∃ n', LOk P 58 [.vs (l.map eRg)] [] 0 (.slice 0 3 0 (l.map eRg).length) [⟨0, 0, .rows 118 3 (l.map eRg)⟩] n' := by
  refine ⟨1, ?_⟩
  have m1 : (l.length ≤ maxLen) = True := mx (by omega)
  have m2 : (l.length * 24 ≤ 140737488355328) = True := by simp only [eq_iff_iff, iff_true]; omega
  have m3 : (l.map eRg).all (fun v => decide (v.cells.length = 3)) = true := by simp [List.all_map, AV.cells]
  refine c58.lok (Cor.post (Cor.run (noC_good _) (noHx_good _) hm ?_))
  simp +contextual -implicitDefEqProofs (maxSteps := 2000000) only [bg_eq, a58, List.length_map, m1, m2, m3, rs_nil, rs_t, rs_f, ag_nils, ag_sl, ag_vs, ag_str, ag_ptr, ag_nilp, ag_vp, ag_fun, FinL, ruH, ruB, Int.reduceLT, Int.reduceLE, Int.reduceAdd, Int.reduceSub, Int.reduceMul, Int.reduceNeg, Int.reduceToNat, Int.reduceEq, Int.reduceNe, Int.reduceTDiv, Int.reduceTMod, implies_true, putL, appN, appX, appC, Eng.Fi, reduceCtorEq, exists_eq_left', exists_eq_left, if_true, if_false, List.replicate, Nat.reduceAdd, Nat.reduceSub, Nat.reduceMul, Nat.reduceLeDiff, Nat.reduceLT, Nat.reduceEqDiff]
  exact ⟨⟨[.any, .any, .slice 0 3 0 l.length, .any, .any, .any], [⟨0, 0, .rows 118 3 (l.map eRg)⟩], 1⟩, Wkn.to ⟨0, [(1, 0)], [], 1, [2]⟩ rfl rfl (by simp [Wk.st, keepT, memN, Wk.fate, Wk.fate0, assoc, getE, Wk.hp, ABlk.sub, sub1, subs, free_Rg]), _, rfl, rfl, by simp, rfl⟩
def crC : List AV → Option (List AV)
  | [.vs us] => match decL dRg us with
    | some l => if l.length ≤ 1000 then some (l.map eRg) else none
    | none => none
  | _ => none
theorem lay_CopyReadings : LayS P 58 118 3 crC := fun args xs h => by
  unfold crC at h
  split at h
  · rename_i us
    split at h
    · rename_i l hl
      split at h
      · rename_i hc
        have h := Option.some.inj h
        subst h
        rw [decL_inv dRg eRg dRg_inv hl]
        exact ⟨l_CopyReadings l hc, by simp only [subs, sub1, free_Rg], free_Rg _ _⟩
      · cases h
    · cases h
  · cases h
def h_cr : List AV → List HEnt → Nat → Option (AV × List HEnt × Nat) := layHs 118 3 crC
theorem hn_cr : Hn P 58 h_cr := lay_CopyReadings.hn
theorem y_cr (l : List Rg) (h : l.length ≤ 1000) (H : List HEnt) (nx : Nat) : h_cr [.vs (l.map eRg)] H nx = some (.slice nx 3 0 l.length, ⟨nx, nx, .rows 118 3 (l.map eRg)⟩ :: H, nx + 1) := by
  have hc : crC [.vs (l.map eRg)] = some (l.map eRg) := by
    show (match decL dRg (l.map eRg) with | some l => if l.length ≤ 1000 then some (l.map eRg) else none | none => none) = _
    rw [decL_map dRg eRg dRg_e l]
    exact if_pos h
  have := yS_h hc 118 3 H nx
  rw [List.length_map] at this
  exact this
end Wa
