/-
  THE ENGINE, PART U: regions.
-/
import Derived.Test.YtjfhhaaogcgkpaaEngT
namespace Eng
open Go Go.RowKit
set_option linter.unusedSimpArgs false
set_option linter.unusedVariables false

def stAt (cs : Ctx) : List AOper → AState → Nat → AState
  | [], s, _ => s
  | _ :: _, s, 0 => s
  | o :: os, s, k + 1 => match step cs o s with
    | some s' => stAt cs os s' k
    | none => s

theorem stAt_zero (cs : Ctx) (l : List AOper) (s : AState) : stAt cs l s 0 = s := by cases l <;> rfl

theorem stAt_run {cs : Ctx} : ∀ {l : List AOper} {s s' : AState}, run cs l s = some s' → stAt cs l s l.length = s' ∧ ∀ k o, l[k]? = some o → step cs o (stAt cs l s k) = some (stAt cs l s (k + 1))
  | [], s, s', h => by
    simp only [run, Option.some.injEq] at h
    exact ⟨h, fun k o hk => by simp at hk⟩
  | o :: os, s, s', h => by
    simp only [run] at h
    cases hst : step cs o s with
    | none => rw [hst] at h; cases h
    | some s1 =>
      rw [hst] at h
      simp only [obind, Option.bind_some] at h
      obtain ⟨h1, h2⟩ := stAt_run h
      refine ⟨by simp only [List.length_cons, stAt, hst]; exact h1, fun k o' hk => ?_⟩
      cases k with
      | zero =>
        simp only [List.getElem?_cons_zero, Option.some.injEq] at hk
        subst hk
        simp only [stAt, hst, stAt_zero]
      | succ k =>
        simp only [List.getElem?_cons_succ] at hk
        have := h2 k o' hk
        simp only [stAt, hst]
        exact this

theorem runL_run {cs : Ctx} : ∀ {l : List AOper} {s s' : AState} {log log' : List FP}, runL cs l s log = some (s', log') →
    run cs l s = some s' ∧ (∀ k o, l[k]? = some o → log'.getD (log.length + k) ([], none) = fpO o (stAt cs l s k)) ∧ ∀ k, k < log.length → log'.getD k ([], none) = log.getD k ([], none)
  | [], s, s', log, log', h => by
    simp only [runL, Option.some.injEq, Prod.mk.injEq] at h
    obtain ⟨rfl, rfl⟩ := h
    exact ⟨rfl, fun k o hk => by simp at hk, fun _ _ => rfl⟩
  | o :: os, s, s', log, log', h => by
    simp only [runL, Option.bind_eq_some_iff] at h
    obtain ⟨s1, hst, h⟩ := h
    obtain ⟨h1, h2, h3⟩ := runL_run h
    refine ⟨by simp only [run, hst, obind, Option.bind_some]; exact h1, fun k o' hk => ?_, fun k hk => ?_⟩
    · cases k with
      | zero =>
        simp only [List.getElem?_cons_zero, Option.some.injEq] at hk
        subst hk
        have := h3 log.length (by simp)
        simpa [stAt] using this
      | succ k =>
        simp only [List.getElem?_cons_succ] at hk
        have := h2 k o' hk
        simp only [List.length_append, List.length_singleton] at this
        simp only [stAt, hst]
        rw [← this]; congr 1; omega
    · have := h3 k (by simp; omega)
      rw [this, List.getD_eq_getElem?_getD, List.getElem?_append_left hk, ← List.getD_eq_getElem?_getD]

theorem compL_get {P : Program} {all : List Oper} : ∀ {l : List Oper} {r : List AOper}, compL P all l = some r → r.length = l.length ∧ ∀ (k : Nat) o, l[k]? = some o → ∃ ao, r[k]? = some ao ∧ compO P all o = some ao
  | [], r, h => by
    simp only [compL, Option.some.injEq] at h
    subst h
    exact ⟨rfl, fun k o hk => by simp at hk⟩
  | o :: os, r, h => by
    simp only [compL, Option.bind_eq_some_iff, Option.map_eq_some_iff] at h
    obtain ⟨ao, h1, r', h2, rfl⟩ := h
    obtain ⟨h3, h4⟩ := compL_get h2
    refine ⟨by simp [h3], fun k o' hk => ?_⟩
    cases k with
    | zero =>
      simp only [List.getElem?_cons_zero, Option.some.injEq] at hk
      subst hk
      exact ⟨ao, rfl, h1⟩
    | succ k =>
      simp only [List.getElem?_cons_succ] at hk ⊢
      exact h4 k o' hk

theorem compO_dst {P : Program} {all : List Oper} {o : Oper} {ao : AOper} (h : compO P all o = some ao) : ao.dst = o.dst := by
  simp only [compO, Option.bind_eq_some_iff, Option.map_eq_some_iff] at h
  obtain ⟨⟨op, xs⟩, _, ys, _, g, _, rfl⟩ := h
  rfl

/-- how an operation came out -/
def outAt (cs : Ctx) (l : List AOper) (s : AState) (k : Nat) : AV × Eff × Bool :=
  ((l[k]?).bind fun o => outOp cs o (stAt cs l s k)).getD (.any, .no, false)

theorem pairsOf_mem {ms : List Nat} {aops : List AOper} {i j : Nat} {x y : AOper} (hij : i < j) (hx : aops[i]? = some x) (hy : aops[j]? = some y) (hb : (ms.getD j 0).testBit i = false) (hr : relevant x.op y.op = true) : (i, j) ∈ pairsOf ms aops := by
  have hj : j < aops.length := (List.getElem?_eq_some_iff.1 hy).1
  simp only [pairsOf, List.mem_flatMap, List.mem_range, List.mem_filterMap]
  exact ⟨j, hj, i, hij, by simp only [hb, hx, hy, hr, Bool.false_eq_true, if_false, if_true]⟩

section
variable {P : Program} {E : Env} {r : Option Nat} {n : Nat} {Q : Exit → Act → World → Prop} {cs : Ctx} {G : Ghost} {a : Act} {w : World} {s s' : AState}

theorem region_seq (hcs : Good P cs) {id : Nat} {ops : Array Oper} {aops : List AOper} (hc : compL P ops.toList ops.toList = some aops) (hs : run cs aops s = some s') (h : SRel E G s a w)
    (hQ : ∀ (G' : Ghost) (a' : Act) (w' : World), SRel E G' s' a' w' → Q .normal a' w') : (Code.region id ops false).wpIn (FW r) n P Q a w := by
  refine wpIn_region ?_
  have := run_sound (r := r) (n := n) (Q := Q) (k := 0) hcs hc (fun i => by rw [Nat.zero_add, Array.getElem?_toList]) hs h hQ
  rwa [Array.length_toList, ← List.range_eq_range'] at this

theorem region_drawn (hcs : Good P cs) (hm : P.follows .mixedOrders = true) {id : Nat} {ops : Array Oper} {aops : List AOper} {pairs : List (Nat × Nat)} (hc : compL P ops.toList ops.toList = some aops)
    (hok : okD ops.toList (masks ops.toList []) aops = true) (hp : pairsOf (masks ops.toList []) aops = pairs) (hs : runD cs aops pairs s = some s') (h : SRel E G s a w)
    (hQ : ∀ (G' : Ghost) (a' : Act) (w' : World), SRel E G' s' a' w' → Q .normal a' w') : (Code.region id ops true).wpIn (FW r) n P Q a w := by
  refine wpIn_region_any hm ?_
  obtain ⟨hl, hc⟩ := compL_get hc
  have hl : aops.length = ops.size := by rw [hl, Array.length_toList]
  have hrun : run cs aops s = some s' := by
    unfold runD at hs
    split at hs
    · exact hs
    · simp only [Option.bind_eq_some_iff] at hs
      obtain ⟨⟨s1, log⟩, h1, h2⟩ := hs
      split at h2
      · cases h2; exact (runL_run h1).1
      · cases h2
  have hindep : ∀ (i j : Nat) (x y : AOper), i < j → aops[i]? = some x → aops[j]? = some y → (i, j) ∈ pairs → indep (fpO x (stAt cs aops s i)) (fpO y (stAt cs aops s j)) = true := by
    intro i j x y hij hx hy hm
    unfold runD at hs
    split at hs
    · simp at hm
    · simp only [Option.bind_eq_some_iff] at hs
      obtain ⟨⟨s1, log⟩, h1, h2⟩ := hs
      split at h2
      · rename_i hall
        have := List.all_eq_true.1 hall (i, j) hm
        obtain ⟨_, h3, _⟩ := runL_run h1
        have e1 := h3 i x hx
        have e2 := h3 j y hy
        simp only [List.length_nil, Nat.zero_add] at e1 e2
        simpa only [e1, e2] using this
      · cases h2
  obtain ⟨hend, hstep⟩ := stAt_run hrun
  simp only [okD, List.all_eq_true, List.mem_range, Bool.and_eq_true, Array.length_toList] at hok
  have hout : ∀ (k : Nat) (ao : AOper), aops[k]? = some ao → outOp cs ao (stAt cs aops s k) = some ((outAt cs aops s k).1, (outAt cs aops s k).2.1, (outAt cs aops s k).2.2) ∧
      stAt cs aops s (k + 1) = after (stAt cs aops s k) ao.dst (outAt cs aops s k).1 (outAt cs aops s k).2.1 (outAt cs aops s k).2.2 := by
    intro k ao hk
    obtain ⟨v, f, c, h1, h2⟩ := step_out (hstep k ao hk)
    have : outAt cs aops s k = (v, f, c) := by simp [outAt, hk, h1]
    rw [this]
    exact ⟨h1, h2⟩
  refine drawn_sound (E := E) (G := G) hcs (ms := masks ops.toList []) rfl (fun k o hk => ?_) hl (fun j o hj e he => ?_) (stAt cs aops s) (fun k => (outAt cs aops s k).1) (fun k => (outAt cs aops s k).2.1) (fun k => (outAt cs aops s k).2.2) hout (fun i j x y hij hx hy hb => ?_) ?_ (by rw [← hl, hend]; exact hQ)
  · obtain ⟨ao, h1, h2⟩ := hc k o (by rw [Array.getElem?_toList]; exact hk)
    exact ⟨ao, h1, h2, compO_dst h2⟩
  · have hjs : j < ops.size := (Array.getElem?_eq_some_iff.1 hj).1
    have := (hok j hjs).1
    rw [Array.getElem?_toList, hj] at this
    simp only [List.all_eq_true, decide_eq_true_eq] at this
    exact this e he
  · have hj : j < ops.size := by rw [← hl]; exact (List.getElem?_eq_some_iff.1 hy).1
    have := (hok j hj).2 i hij
    rw [hb, hx, hy] at this
    refine ⟨by simpa using this, ?_⟩
    cases hr : relevant x.op y.op with
    | false => exact fp_indep hr
    | true => exact hindep i j x y hij hx hy (hp ▸ pairsOf_mem hij hx hy hb hr)
  · rw [stAt_zero]
    exact ⟨h.tm, h.hp.world (fun _ _ => rfl) (Nat.le_refl _), h.df, h.le, h.kp.trans ⟨rfl, rfl, rfl, Nat.le_refl _⟩⟩

end
end Eng
