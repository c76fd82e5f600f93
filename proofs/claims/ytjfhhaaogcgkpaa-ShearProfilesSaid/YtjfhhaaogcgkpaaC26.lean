import Derived.Test.YtjfhhaaogcgkpaaEngS9
import Derived.Test.YtjfhhaaogcgkpaaC25
open Go Go.Proofs Eng
set_option maxRecDepth 100000
set_option linter.unusedSimpArgs false
set_option linter.unusedVariables false

namespace Sh

/-! the blind stretches are the runs of blind positions -/
def As : Int → List Gt → Prop
  | _, [] => True
  | last, g :: r => last < g.at' ∧ As g.at' r
theorem eachG_As : ∀ {l : List Gt} {i last : Int}, (eachG i last l).2 = 0 → As last l
  | [], _, _, _ => trivial
  | g :: r, i, last, h => by
    simp only [eachG] at h
    split at h
    · rename_i hx
      exact ⟨(gErr_zero hx).2.2.2, eachG_As h⟩
    · rename_i hx; exact absurd h hx
theorem chkP_As {l : List Gt} (h : (chkP l).2 = 0) : As (-1) l := by
  have h20 := (chkP_zero h).1
  simp only [chkP, h20, if_true] at h
  exact eachG_As h
theorem chkP_okP {l : List Gt} (h : (chkP l).2 = 0) : okP l := by
  refine ⟨by have := (chkP_zero h).1; omega, fun g hg => ?_⟩
  obtain ⟨last, h⟩ := (chkP_zero h).2 g hg
  exact (gErr_zero h).1
theorem As_lt {l : List Gt} {last : Int} (h : As last l) : ∀ g ∈ l, last < g.at' := by
  induction l generalizing last with
  | nil => simp
  | cons g r ih =>
    intro x hx
    rcases List.mem_cons.1 hx with rfl | hx
    · exact h.1
    · have := ih h.2 x hx; have := h.1; omega
theorem any_far {l : List Gt} {gap s : Int} (h : ∀ g ∈ l, s + gap < g.at') : l.any (near gap s) = false := by
  rw [List.any_eq_false]
  intro g hg
  have := h g hg
  simp only [near, decide_eq_true_eq]
  omega
theorem run_add (l : List Gt) (gap : Int) : ∀ (j k : Nat) (t : Int) (o : OuN), runD l gap (j + k) t o = runD l gap k (t + j) (runD l gap j t o)
  | 0, k, t, o => by simp [runD]
  | j + 1, k, t, o => by
    rw [Nat.succ_add, runD, run_add l gap j k, runD]
    congr 1
    omega
theorem run_no {l : List Gt} {gap : Int} : ∀ {k : Nat} {t : Int} {o : OuN}, (∀ s, t ≤ s → s < t + k → isBl l gap s = false) → runD l gap k t o = o
  | 0, t, o, h => rfl
  | k + 1, t, o, h => by
    rw [runD, show stD l gap t o = o by rw [stD, h t (by omega) (by omega)]; rfl]
    exact run_no fun s h1 h2 => h s (by omega) (by omega)
theorem run_yes {l : List Gt} {gap : Int} : ∀ {k : Nat} {t : Int} {m : List Rg} {a : Rg}, a.hi = t - 1 → (∀ s, t ≤ s → s < t + k → isBl l gap s = true) → runD l gap k t (some (m, a)) = some (m, ⟨a.lo, t + k - 1⟩)
  | 0, t, m, a, h1, h => by
    have : (⟨a.lo, t + (0 : Nat) - 1⟩ : Rg) = a := Rg.ext rfl (by simp only; omega)
    rw [this]; rfl
  | k + 1, t, m, a, h1, h => by
    rw [runD, show stD l gap t (some (m, a)) = some (m, ⟨a.lo, t⟩) by rw [stD, h t (by omega) (by omega)]; simp [addD, h1]]
    rw [run_yes (by simp only; omega) fun s h1 h2 => h s (by omega) (by omega)]
    have : t + 1 + (k : Int) - 1 = t + ((k + 1 : Nat) : Int) - 1 := by omega
    rw [this]
def appD (r : Rg) : OuN → OuN
  | none => some ([], r)
  | some (m, a) => some (m ++ [a], r)
def Fresh (t : Int) (o : OuN) : Prop := ∀ m a, o = some (m, a) → a.hi + 1 < t
theorem appD_l (r : Rg) (o : OuN) : (appD r o).l = o.l ++ [r] := by
  cases o with
  | none => rfl
  | some p => obtain ⟨m, a⟩ := p; simp [appD, OuN.l]
theorem run_new {l : List Gt} {gap : Int} {k : Nat} {t : Int} {o : OuN} (hf : Fresh t o) (h : ∀ s, t ≤ s → s < t + ((k + 1 : Nat) : Int) → isBl l gap s = true) : runD l gap (k + 1) t o = appD ⟨t, t + k⟩ o := by
  have e : stD l gap t o = appD ⟨t, t⟩ o := by
    rw [stD, h t (by omega) (by omega), if_pos rfl]
    cases o with
    | none => rfl
    | some p =>
      obtain ⟨m, a⟩ := p
      have := hf m a rfl
      simp only [addD, appD]
      rw [if_neg (by omega)]
  rw [runD, e]
  have e2 : t + 1 + (k : Int) - 1 = t + k := by omega
  cases o with
  | none =>
    simp only [appD]
    rw [run_yes (by simp only; omega) fun s h1 h2 => h s (by omega) (by omega), e2]
  | some p =>
    simp only [appD]
    rw [run_yes (by simp only; omega) fun s h1 h2 => h s (by omega) (by omega), e2]
theorem run_skip {l : List Gt} {gap hi x y : Int} {o : OuN} (hxy : x ≤ y) (h : ∀ s, x ≤ s → s < y → s ≤ hi → isBl l gap s = false) : runD l gap (hi + 1 - x).toNat x o = runD l gap (hi + 1 - y).toNat y o := by
  by_cases h1 : hi + 1 ≤ x
  · rw [show (hi + 1 - x).toNat = 0 by omega, show (hi + 1 - y).toNat = 0 by omega]; rfl
  · by_cases h2 : y ≤ hi + 1
    · rw [show (hi + 1 - x).toNat = (y - x).toNat + (hi + 1 - y).toNat by omega, run_add]
      rw [run_no fun s h1 h2 => h s h1 (by omega) (by omega)]
      congr 1
      omega
    · rw [show (hi + 1 - y).toNat = 0 by omega]
      rw [run_no fun s h1 h2 => h s h1 (by omega) (by omega)]
      rfl
theorem run_take {l : List Gt} {gap hi x e : Int} {o : OuN} (hf : Fresh x o) (h1 : x ≤ e) (h2 : e ≤ hi) (h : ∀ s, x ≤ s → s ≤ e → isBl l gap s = true) : runD l gap (hi + 1 - x).toNat x o = runD l gap (hi + 1 - (e + 1)).toNat (e + 1) (appD ⟨x, e⟩ o) := by
  rw [show (hi + 1 - x).toNat = ((e - x).toNat + 1) + (hi + 1 - (e + 1)).toNat by omega, run_add]
  rw [run_new hf fun s h1 h2 => h s h1 (by omega)]
  have e1 : x + ((e - x).toNat : Int) = e := by omega
  have e2 : x + (((e - x).toNat + 1 : Nat) : Int) = e + 1 := by omega
  rw [e1, e2]
theorem blind_fold {L : List Gt} {gap hi : Int} (hg : 0 ≤ gap) : ∀ (rest : List Gt) (fr last : Int) (o : OuN), As last rest → (∀ s, fr ≤ s → isBl L gap s = !(rest.any (near gap s))) → Fresh fr o →
    addB (rest.foldl (stB hi gap) (fr, o.l)).1 hi (rest.foldl (stB hi gap) (fr, o.l)).2 = (runD L gap (hi + 1 - fr).toNat fr o).l
  | [], fr, last, o, _, hb, hf => by
    show addB fr hi o.l = _
    rw [addB]
    by_cases h : fr ≤ hi
    · rw [if_pos h, run_take hf h (Int.le_refl _) fun s h1 h2 => by rw [hb s h1]; rfl, show (hi + 1 - (hi + 1)).toNat = 0 by omega]
      simp only [runD, appD_l]
    · rw [if_neg h, show (hi + 1 - fr).toNat = 0 by omega]; rfl
  | g :: r, fr, last, o, ha, hb, hf => by
    obtain ⟨ha1, ha2⟩ := ha
    have hlt := As_lt ha2
    have hb' : ∀ s, max fr (g.at' + gap + 1) ≤ s → isBl L gap s = !(r.any (near gap s)) := fun s hs => by
      rw [hb s (by omega), List.any_cons]
      have : near gap s g = false := by simp only [near, decide_eq_false_iff_not]; omega
      rw [this, Bool.false_or]
    have hy : ∀ s, fr ≤ s → s ≤ g.at' - gap - 1 → isBl L gap s = true := fun s h1 h2 => by
      rw [hb s h1, any_far]; rfl
      intro x hx
      rcases List.mem_cons.1 hx with rfl | hx
      · omega
      · have := hlt x hx; omega
    have hn : ∀ s, fr ≤ s → g.at' - gap ≤ s → s ≤ g.at' + gap → isBl L gap s = false := fun s h1 h2 h3 => by
      rw [hb s h1, List.any_cons]
      have : near gap s g = true := by simp only [near, decide_eq_true_eq]; omega
      rw [this]; rfl
    rw [List.foldl_cons]
    simp only [stB]
    by_cases he : fr ≤ min hi (g.at' - gap - 1)
    · have hl : addB fr (min hi (g.at' - gap - 1)) o.l = (appD ⟨fr, min hi (g.at' - gap - 1)⟩ o).l := by rw [addB, if_pos he, appD_l]
      rw [hl, blind_fold hg r _ _ _ ha2 hb']
      · rw [run_take hf he (by omega) fun s h1 h2 => hy s h1 (by omega)]
        rw [run_skip (x := min hi (g.at' - gap - 1) + 1) (y := max fr (g.at' + gap + 1)) (by omega) fun s h1 h2 h3 => hn s (by omega) (by omega) (by omega)]
      · intro m a hma
        have : a = ⟨fr, min hi (g.at' - gap - 1)⟩ := by
          cases o with
          | none => simp only [appD, Option.some.injEq, Prod.mk.injEq] at hma; exact hma.2.symm
          | some p => simp only [appD, Option.some.injEq, Prod.mk.injEq] at hma; exact hma.2.symm
        rw [this]; simp only; omega
    · have hl : addB fr (min hi (g.at' - gap - 1)) o.l = o.l := by rw [addB, if_neg he]
      rw [hl, blind_fold hg r _ _ _ ha2 hb']
      · rw [run_skip (x := fr) (y := max fr (g.at' + gap + 1)) (by omega) fun s h1 h2 h3 => hn s (by omega) (by omega) (by omega)]
      · intro m a hma
        have := hf m a hma
        omega
theorem blind_run {l : List Gt} {lo hi gap : Int} (h0 : blE l lo hi gap = 0) : blindL l lo hi gap = ((runD l gap (hi + 1 - lo).toNat lo none).l, 0) := by
  have hz := firstE_zero h0
  have hz1 := hz _ (by simp : (chkP l).2 ∈ _)
  have hz3 := unl_zero (hz (unl (0 ≤ gap ∧ gap ≤ 50000) 2) (by simp)) (by decide)
  have := blind_fold (L := l) (gap := gap) (hi := hi) (by omega) l lo (-1) none (chkP_As hz1) (fun s _ => rfl) (fun m a h => by cases h)
  simp only [blindL, h0, if_true]
  rw [← this]; rfl
/-! positions in runs -/
theorem inD {l : List Gt} {gap : Int} : ∀ (k : Nat) (t : Int) (o : OuN) (s : Int), (∀ r ∈ o.l, r.lo ≤ r.hi) → (runD l gap k t o).l.any (inR s) = (o.l.any (inR s) || (decide (t ≤ s ∧ s < t + k) && isBl l gap s)) ∧ (∀ r ∈ (runD l gap k t o).l, r.lo ≤ r.hi)
  | 0, t, o, s, h => by
    have : decide (t ≤ s ∧ s < t + ((0 : Nat) : Int)) = false := by simp only [decide_eq_false_iff_not]; omega
    rw [this, Bool.false_and, Bool.or_false]
    exact ⟨rfl, h⟩
  | k + 1, t, o, s, h => by
    have hst : (stD l gap t o).l.any (inR s) = (o.l.any (inR s) || (decide (s = t) && isBl l gap s)) ∧ ∀ r ∈ (stD l gap t o).l, r.lo ≤ r.hi := by
      unfold stD
      by_cases hb : isBl l gap t = true
      · rw [if_pos hb]
        have hd : (decide (s = t) && isBl l gap s) = decide (s = t) := by
          by_cases hs : s = t
          · rw [hs, hb]; simp
          · simp [hs]
        rw [hd]
        cases o with
        | none =>
          refine ⟨?_, by simp [addD, OuN.l]⟩
          simp only [addD, OuN.l, List.nil_append, List.any_cons, List.any_nil, Bool.or_false, Bool.false_or, inR]
          rw [decide_eq_decide]; omega
        | some p =>
          obtain ⟨m, a⟩ := p
          have ha := h a (by simp [OuN.l])
          simp only [addD]
          by_cases hq : a.hi = t - 1
          · rw [if_pos hq]
            refine ⟨?_, ?_⟩
            · simp only [OuN.l, List.any_append, List.any_cons, List.any_nil, Bool.or_false, Bool.or_assoc, inR]
              congr 1
              rw [← Bool.decide_or, decide_eq_decide]
              omega
            · intro r hr
              simp only [OuN.l, List.mem_append, List.mem_singleton] at hr
              rcases hr with hr | rfl
              · exact h r (by simp [OuN.l, hr])
              · simp only; omega
          · rw [if_neg hq]
            refine ⟨?_, ?_⟩
            · simp only [OuN.l, List.any_append, List.any_cons, List.any_nil, Bool.or_false, Bool.or_assoc, inR]
              congr 2
              rw [decide_eq_decide]
              omega
            · intro r hr
              simp only [OuN.l, List.mem_append, List.mem_singleton] at hr
              rcases hr with hr | rfl
              · exact h r (by simpa [OuN.l] using hr)
              · simp only; omega
      · rw [if_neg hb]
        refine ⟨?_, h⟩
        by_cases hs : s = t
        · rw [hs, show isBl l gap t = false by simpa using hb]; simp
        · simp [hs]
    obtain ⟨h1, h2⟩ := hst
    obtain ⟨h3, h4⟩ := inD k (t + 1) (stD l gap t o) s h2
    rw [runD]
    refine ⟨?_, h4⟩
    rw [h3, h1, Bool.or_assoc]
    congr 1
    cases isBl l gap s
    · simp
    · simp only [Bool.and_true]
      rw [← Bool.decide_or, decide_eq_decide]
      omega
theorem in_run {l : List Gt} {lo hi gap s : Int} (h : lo ≤ hi) : (runD l gap (hi + 1 - lo).toNat lo none).l.any (inR s) = (decide (lo ≤ s ∧ s ≤ hi) && isBl l gap s) := by
  rw [(inD _ lo none s (by simp [OuN.l])).1]
  simp only [OuN.l, List.any_nil, Bool.false_or]
  congr 1
  rw [decide_eq_decide]; omega
theorem isBl_less {l : List Gt} {gap s : Int} (h : isBl l (gap + 1) s = true) : isBl l gap s = true := by
  simp only [isBl, Bool.not_eq_true', List.any_eq_false, near, decide_eq_true_eq] at h ⊢
  intro g hg
  have := h g hg
  omega
theorem less_in {l : List Gt} {lo hi gap : Int} (h : lo ≤ hi) {r : Rg} (hr : r ∈ (runD l (gap + 1) (hi + 1 - lo).toNat lo none).l) : (runD l gap (hi + 1 - lo).toNat lo none).l.any (inR r.lo) = true ∧ (runD l gap (hi + 1 - lo).toNat lo none).l.any (inR r.hi) = true := by
  have hle := (inD (l := l) (gap := gap + 1) (hi + 1 - lo).toNat lo none 0 (by simp [OuN.l])).2 r hr
  have key : ∀ s, r.lo ≤ s → s ≤ r.hi → (runD l gap (hi + 1 - lo).toNat lo none).l.any (inR s) = true := fun s h1 h2 => by
    have h3 : (runD l (gap + 1) (hi + 1 - lo).toNat lo none).l.any (inR s) = true := by
      rw [List.any_eq_true]
      exact ⟨r, hr, by simp only [inR, decide_eq_true_eq]; exact ⟨h1, h2⟩⟩
    rw [in_run h, Bool.and_eq_true] at h3
    rw [in_run h, h3.1, isBl_less h3.2]; rfl
  exact ⟨key _ (Int.le_refl _) hle, key _ hle (Int.le_refl _)⟩
theorem run_len {l : List Gt} {gap : Int} : ∀ (k : Nat) (t : Int) (o : OuN), (runD l gap k t o).l.length ≤ o.l.length + k
  | 0, t, o => Nat.le_refl _
  | k + 1, t, o => by
    rw [runD]
    have h1 := run_len (l := l) (gap := gap) k (t + 1) (stD l gap t o)
    have h2 : (stD l gap t o).l.length ≤ o.l.length + 1 := by
      unfold stD
      split
      · exact addD_len t o
      · omega
    omega
end Sh
