import Derived.Test.YtjkhnmhbbjgenaaEngS9
import Derived.Test.YtjkhnmhbbjgenaaS40
open Go Go.Proofs Eng
set_option maxRecDepth 100000
set_option linter.unusedSimpArgs false
set_option linter.unusedVariables false

namespace Sc
theorem perm_pre {N : Nat} : ∀ (f : Nat) (p q : List Int), q ∈ permG N f p → ∃ r, q = p ++ r
  | 0, p, q, h => by rw [permG, List.mem_singleton] at h; exact ⟨[], by rw [h, List.append_nil]⟩
  | f + 1, p, q, h => by
    rw [permG] at h
    obtain ⟨k, hk, hq⟩ := List.mem_flatMap.1 h
    split at hq
    · simp at hq
    · obtain ⟨r, hr⟩ := perm_pre f _ _ hq
      exact ⟨(k : Int) :: r, by rw [hr, List.append_assoc]; rfl⟩
theorem bef_pre (p : List Int) (a b : List Int) : bef (p ++ a) (p ++ b) = bef a b := by
  induction p with
  | nil => rfl
  | cons x p ih => rw [List.cons_append, List.cons_append, bef, if_pos rfl, ih]
theorem bef_asym : ∀ (a b : List Int), bef a b = true → bef b a = false
  | [], [], h => by cases h
  | [], _ :: _, _ => rfl
  | _ :: _, [], h => by cases h
  | a :: r, b :: q, h => by
    rw [bef] at h ⊢
    by_cases e : a = b
    · rw [if_pos e] at h
      rw [if_pos e.symm]
      exact bef_asym r q h
    · rw [if_neg e] at h
      rw [if_neg (fun x => e x.symm)]
      have := of_decide_eq_true h
      exact decide_eq_false (by omega)
theorem perm_sorted {N : Nat} : ∀ (f : Nat) (p : List Int), (permG N f p).Pairwise fun a b => bef a b = true
  | 0, p => by rw [permG]; exact List.pairwise_singleton _ _
  | f + 1, p => by
    rw [permG]
    have key : ∀ (l : List Nat), l.Pairwise (· < ·) → (l.flatMap fun (k : Nat) => if ((k : Nat) : Int) ∈ p then [] else permG N f (p ++ [((k : Nat) : Int)])).Pairwise fun a b => bef a b = true := by
      intro l
      induction l with
      | nil => intro _; exact List.Pairwise.nil
      | cons k l ih =>
        intro hl
        obtain ⟨h1, h2⟩ := List.pairwise_cons.1 hl
        rw [List.flatMap_cons]
        refine List.pairwise_append.2 ⟨?_, ih h2, fun a ha b hb => ?_⟩
        · split
          · exact List.Pairwise.nil
          · exact perm_sorted f _
        · split at ha
          · simp at ha
          · obtain ⟨j, hj, hb⟩ := List.mem_flatMap.1 hb
            split at hb
            · simp at hb
            · have hkj := h1 j hj
              obtain ⟨r, rfl⟩ := perm_pre f _ _ ha
              obtain ⟨q, rfl⟩ := perm_pre f _ _ hb
              rw [List.append_assoc, List.append_assoc, bef_pre]
              show bef ((k : Int) :: r) ((j : Int) :: q) = true
              rw [bef, if_neg (by omega)]
              exact decide_eq_true (by omega)
    exact key _ List.pairwise_lt_range
/-- the best one of those seen -/
def Best (o : Od) (pre : List (List Int)) : Option (List Int × Int) → Prop
  | none => ∀ q ∈ pre, tcG o 0 o.hd.home q = none
  | some (p, t) => p ∈ pre ∧ tcG o 0 o.hd.home p = some t ∧ ∀ q ∈ pre, ∀ u, tcG o 0 o.hd.home q = some u → t ≤ u ∧ (u = t → q = p ∨ bef p q = true)
theorem best_step {o : Od} {pre : List (List Int)} {x : Option (List Int × Int)} {s : List Int} (h : Best o pre x) (hs : ∀ a ∈ pre, bef a s = true) : Best o (pre ++ [s]) (bst o x s).1 := by
  unfold bst
  cases hT : tcG o 0 o.hd.home s with
  | none =>
    cases x with
    | none =>
      intro q hq
      rcases List.mem_append.1 hq with hq | hq
      · exact h q hq
      · rw [List.mem_singleton.1 hq]; exact hT
    | some x =>
      obtain ⟨p, t⟩ := x
      obtain ⟨h1, h2, h3⟩ := h
      refine ⟨List.mem_append.2 (.inl h1), h2, fun q hq u hu => ?_⟩
      rcases List.mem_append.1 hq with hq | hq
      · exact h3 q hq u hu
      · rw [List.mem_singleton.1 hq, hT] at hu; cases hu
  | some v =>
    cases x with
    | none =>
      refine ⟨by simp, hT, fun q hq u hu => ?_⟩
      rcases List.mem_append.1 hq with hq | hq
      · rw [h q hq] at hu; cases hu
      · rw [List.mem_singleton.1 hq, hT] at hu
        cases hu
        exact ⟨Int.le_refl _, fun _ => .inl (List.mem_singleton.1 hq)⟩
    | some x =>
      obtain ⟨p, t⟩ := x
      obtain ⟨h1, h2, h3⟩ := h
      simp only
      by_cases hv : v < t
      · rw [if_pos hv]
        refine ⟨by simp, hT, fun q hq u hu => ?_⟩
        rcases List.mem_append.1 hq with hq | hq
        · have := (h3 q hq u hu).1
          exact ⟨by omega, fun e => by omega⟩
        · rw [List.mem_singleton.1 hq, hT] at hu
          cases hu
          exact ⟨Int.le_refl _, fun _ => .inl (List.mem_singleton.1 hq)⟩
      · rw [if_neg hv]
        refine ⟨List.mem_append.2 (.inl h1), h2, fun q hq u hu => ?_⟩
        rcases List.mem_append.1 hq with hq | hq
        · exact h3 q hq u hu
        · rw [List.mem_singleton.1 hq, hT] at hu
          cases hu
          refine ⟨by omega, fun _ => .inr ?_⟩
          rw [List.mem_singleton.1 hq]
          exact hs p h1
theorem best_fold {o : Od} : ∀ (ss pre : List (List Int)) (x : Option (List Int × Int)), Best o pre x → (pre ++ ss).Pairwise (fun a b => bef a b = true) → Best o (pre ++ ss) (ss.foldl (fun x p => (bst o x p).1) x)
  | [], pre, x, h, _ => by simpa using h
  | s :: ss, pre, x, h, hp => by
    have e : pre ++ s :: ss = (pre ++ [s]) ++ ss := by rw [List.append_assoc]; rfl
    rw [List.foldl_cons, e]
    refine best_fold ss (pre ++ [s]) _ (best_step h fun a ha => ?_) (e ▸ hp)
    exact (List.pairwise_append.1 hp).2.2 a ha s (by simp)
theorem ooB_best (o : Od) : Best o (permG o.ds.length o.ds.length []) (ooB o) := by
  have := best_fold (o := o) (permG o.ds.length o.ds.length []) [] none (fun q hq => by simp at hq) (perm_sorted _ _)
  rw [List.nil_append] at this
  exact this
end Sc
