import Derived.Test.YtjfhhaaogcgkpaaEngS9
import Derived.Test.YtjfhhaaogcgkpaaC15
open Go Go.Proofs Eng
set_option maxRecDepth 100000
set_option linter.unusedSimpArgs false
set_option linter.unusedVariables false

namespace Sh

/-! events that are all later by d -/
def shG (d : Int) (g : Gt) : Gt := ⟨g.at' + d, g.lo, g.hi⟩
def shA (d : Int) (a : Al) : Al := ⟨a.num, a.fr + d, a.to + d⟩
def shO (d : Int) : Ou → Ou
  | none => none
  | some (m, a) => some (m.map (shA d), shA d a)
/-- the same state, later by d -/
def Lat (d : Int) (s s' : St) : Prop := s'.up = s.up ∧ s'.num = s.num ∧ (s.up = true → s'.since = s.since + d ∧ s'.heard = s.heard + d) ∧ (s.quiet = -1 ∧ s'.quiet = -1 ∨ ¬ s.quiet = -1 ∧ ¬ s'.quiet = -1 ∧ s'.quiet = s.quiet + d)
theorem Lat.exp {d : Int} {r : Rl} {s s' : St} {t : Int} (h : Lat d s s') : Lat d (expS r s t) (expS r s' (t + d)) := by
  obtain ⟨h1, h2, h3, h4⟩ := h
  unfold expS
  by_cases hu : s.up = true
  · have h3 := h3 hu
    by_cases hc : r.tmo < t - s.heard
    · rw [if_pos ⟨hu, hc⟩, if_pos ⟨by rw [h1]; exact hu, by omega⟩]
      exact ⟨rfl, h2, fun x => by simp [endS] at x, .inl ⟨rfl, rfl⟩⟩
    · rw [if_neg (fun x => hc x.2), if_neg (fun x => hc (by have := x.2; omega))]
      exact ⟨h1, h2, fun _ => h3, h4⟩
  · rw [if_neg (fun x => hu x.1), if_neg (fun x => hu (by rw [← h1]; exact x.1))]
    exact ⟨h1, h2, fun x => absurd x hu, h4⟩
theorem Lat.mid {d : Int} {r : Rl} {s s' : St} {e : Gt} (hd : 0 ≤ d) (he : 0 ≤ e.at') (h : Lat d s s') : Lat d (midS r s e) (midS r s' (shG d e)) := by
  obtain ⟨h1, h2, h3, h4⟩ := h
  unfold midS
  by_cases hu : s.up = true
  · have hu' : s'.up = true := by rw [h1]; exact hu
    rw [if_pos hu, if_pos hu']
    have g3 := h3 hu
    have key : ∀ a a' : St, Lat d a a' → Lat d (if ¬ a.quiet = -1 ∧ r.hold ≤ e.at' - a.quiet then endS a else a) (if ¬ a'.quiet = -1 ∧ r.hold ≤ (shG d e).at' - a'.quiet then endS a' else a') := by
      intro a a' ha
      obtain ⟨k1, k2, k3, k4⟩ := ha
      by_cases hc : ¬ a.quiet = -1 ∧ r.hold ≤ e.at' - a.quiet
      · rw [if_pos hc, if_pos (by simp only [shG]; omega)]
        exact ⟨rfl, k2, fun x => by simp [endS] at x, .inl ⟨rfl, rfl⟩⟩
      · rw [if_neg hc, if_neg (by simp only [shG]; omega)]
        exact ⟨k1, k2, k3, k4⟩
    refine key _ _ ?_
    have hhi : (shG d e).hi = e.hi := rfl
    rw [hhi]
    by_cases hc : r.clear ≤ e.hi
    · rw [if_pos hc, if_pos hc]
      exact ⟨h1, h2, h3, .inl ⟨rfl, rfl⟩⟩
    · rw [if_neg hc, if_neg hc]
      by_cases hq : s.quiet = -1
      · rw [if_pos hq, if_pos (by omega)]
        exact ⟨h1, h2, h3, .inr ⟨by simp only; omega, by simp only [shG]; omega, by simp only [shG]⟩⟩
      · rw [if_neg hq, if_neg (by omega)]
        exact ⟨h1, h2, h3, h4⟩
  · rw [if_neg hu, if_neg (by rw [h1]; exact hu)]
    exact ⟨h1, h2, h3, h4⟩
theorem Lat.fin {d : Int} {r : Rl} {s s' : St} {e : Gt} (h : Lat d s s') : Lat d (finS r s e).1 (finS r s' (shG d e)).1 := by
  obtain ⟨h1, h2, h3, h4⟩ := h
  unfold finS
  have hlo : (shG d e).lo = e.lo := rfl
  rw [hlo]
  by_cases hc : s.up = false ∧ r.raise ≤ e.lo
  · rw [if_pos hc, if_pos (show s'.up = false ∧ r.raise ≤ e.lo from ⟨by rw [h1]; exact hc.1, hc.2⟩)]
    by_cases hn : s.num = 62500
    · rw [if_pos hn, if_pos (show s'.num = 62500 by omega)]
      exact ⟨h1, h2, h3, h4⟩
    · rw [if_neg hn, if_neg (show ¬ s'.num = 62500 by omega)]
      exact ⟨rfl, by simp only; omega, fun _ => ⟨rfl, rfl⟩, h4⟩
  · rw [if_neg hc, if_neg (show ¬ (s'.up = false ∧ r.raise ≤ e.lo) from fun x => hc ⟨by rw [← h1]; exact x.1, x.2⟩)]
    exact ⟨h1, h2, fun x => ⟨(h3 x).1, rfl⟩, h4⟩
theorem Lat.hear {d : Int} {r : Rl} {s s' : St} {e : Gt} (hd : 0 ≤ d) (he : 0 ≤ e.at') (h : Lat d s s') : Lat d (hearS r s e).1 (hearS r s' (shG d e)).1 := by
  have h1 := h.exp (r := r) (t := e.at')
  have h2 := h1.mid (r := r) (e := e) hd he
  exact h2.fin
theorem shO_set (d v : Int) (o : Ou) : shO d (setO v o) = setO (v + d) (shO d o) := by
  cases o with
  | none => rfl
  | some p => rfl
theorem shO_app (d : Int) (b : Al) (o : Ou) : shO d (appO b o) = appO (shA d b) (shO d o) := by
  cases o with
  | none => rfl
  | some p => simp [shO, appO]
theorem shO_l (d : Int) (o : Ou) : (shO d o).l = o.l.map (shA d) := by
  cases o with
  | none => rfl
  | some p => simp [shO, Ou.l]
theorem setO_app2 (a : Int) (b : Al) (o : Ou) : setO a (appO b o) = appO ⟨b.num, b.fr, a⟩ o := by
  cases o with
  | none => rfl
  | some p => rfl
theorem setO_setO2 (a b : Int) (o : Ou) : setO a (setO b o) = setO a o := by
  cases o with
  | none => rfl
  | some p => rfl
theorem hear_since2 {r : Rl} {s : St} {e : Gt} (h : s.num < (hearS r s e).1.num) : (hearS r s e).1.up = true := by
  have h1 : (expS r s e.at').num = s.num := by unfold expS endS; split <;> rfl
  have hh : hearS r s e = finS r (midS r (expS r s e.at') e) e := rfl
  rw [hh] at h ⊢
  have h2 : (midS r (expS r s e.at') e).num = s.num := by
    generalize expS r s e.at' = s1 at *
    unfold midS
    split
    · have key : ∀ a : St, a.num = s.num → (if ¬ a.quiet = -1 ∧ r.hold ≤ e.at' - a.quiet then endS a else a).num = s.num := fun a ha => by
        split
        · exact ha
        · exact ha
      refine key _ ?_
      split
      · exact h1
      · split <;> exact h1
    · exact h1
  generalize midS r (expS r s e.at') e = s2 at *
  unfold finS at h ⊢
  split at h
  · rename_i hc
    rw [if_pos hc]
    split at h
    · simp only at h; omega
    · rename_i hc2; rw [if_neg hc2]
  · simp only at h; omega
theorem stA_sh {d : Int} {r : Rl} {s s' : St} {o : Ou} {e : Gt} (hd : 0 ≤ d) (he : 0 ≤ e.at') (h : Lat d s s') :
    stA r (s', shO d o) (shG d e) = ((hearS r s' (shG d e)).1, shO d (stA r (s, o) e).2) := by
  have hj := h.hear (r := r) (e := e) hd he
  have hs := hear_since2 (r := r) (s := s) (e := e)
  unfold stA
  simp only
  generalize hearS r s e = p at *
  generalize hearS r s' (shG d e) = p' at *
  obtain ⟨g1, g2, g3, g4⟩ := h
  obtain ⟨j1, j2, j3, j4⟩ := hj
  congr 1
  have hat : (shG d e).at' = e.at' + d := rfl
  have e3 : e.at' + d + r.tmo = e.at' + r.tmo + d := by omega
  have em : ∀ x y : Int, min (e.at' + d - 1) (x + d + y) = min (e.at' - 1) (x + y) + d := fun x y => by omega
  by_cases hu : s.up = true
  · have hu' : s'.up = true := by rw [g1]; exact hu
    have k3 := (g3 hu).2
    by_cases hn : s.num < p.1.num
    · have hn' : s'.num < p'.1.num := by omega
      have hpu := hs hn
      have hpu' : p'.1.up = true := by rw [j1]; exact hpu
      have q := j3 hpu
      rw [j2] at hn'
      simp only [hu, hu', hn, hn', hpu, hpu', if_true, shO_set, shO_app, shA, hat, k3, em, setO_app2, e3, j2, q.1]
    · have hn' : ¬ s'.num < p'.1.num := by omega
      by_cases hpu : p.1.up = true
      · have hpu' : p'.1.up = true := by rw [j1]; exact hpu
        simp only [hu, hu', hn, hn', hpu, hpu', if_true, if_false, shO_set, shO_app, shA, hat, k3, em, setO_setO2, e3]
      · have hpu' : ¬ p'.1.up = true := by rw [j1]; exact hpu
        simp only [hu, hu', hn, hn', hpu, hpu', if_true, if_false, shO_set, shO_app, shA, hat, k3, em, Bool.false_eq_true]
  · have hu' : ¬ s'.up = true := by rw [g1]; exact hu
    by_cases hn : s.num < p.1.num
    · have hn' : s'.num < p'.1.num := by omega
      have hpu := hs hn
      have hpu' : p'.1.up = true := by rw [j1]; exact hpu
      have q := j3 hpu
      rw [j2] at hn'
      simp only [hu, hu', hn, hn', hpu, hpu', if_true, if_false, shO_set, shO_app, shA, hat, setO_app2, e3, j2, q.1, Bool.false_eq_true]
    · have hn' : ¬ s'.num < p'.1.num := by omega
      by_cases hpu : p.1.up = true
      · have hpu' : p'.1.up = true := by rw [j1]; exact hpu
        simp only [hu, hu', hn, hn', hpu, hpu', if_true, if_false, shO_set, shO_app, shA, hat, e3, Bool.false_eq_true]
      · have hpu' : ¬ p'.1.up = true := by rw [j1]; exact hpu
        simp only [hu, hu', hn, hn', hpu, hpu', if_true, if_false, shO_set, shO_app, shA, hat, Bool.false_eq_true]
end Sh
