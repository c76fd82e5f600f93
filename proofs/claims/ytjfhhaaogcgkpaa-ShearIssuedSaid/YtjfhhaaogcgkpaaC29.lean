import Derived.Test.YtjfhhaaogcgkpaaEngS9
import Derived.Test.YtjfhhaaogcgkpaaC28
import Derived.Test.YtjfhhaaogcgkpaaC19
open Go Go.Proofs Eng
set_option maxRecDepth 100000
set_option linter.unusedSimpArgs false
set_option linter.unusedVariables false

namespace Sh

/-! the state before event n -/
def hst (r : Rl) (s : St) (l : List Gt) (n : Nat) : St := (l.take n).foldl (fun s e => (hearS r s e).1) s
theorem hst_succ {r : Rl} {s : St} {l : List Gt} {n : Nat} (h : n < l.length) : hst r s l (n + 1) = (hearS r (hst r s l n) l[n]).1 := by
  have e : l.take (n + 1) = l.take n ++ [l[n]] := by simp
  simp only [hst, e, List.foldl_append, List.foldl_cons, List.foldl_nil]
theorem Va_get {p : Int} {l : List Gt} (h : Va p l) (i : Nat) (hi : i < l.length) : evE l[i] = 0 ∧ p < l[i].at' := Va_all h _ (by simp)
theorem Va_mono : ∀ {l : List Gt} {p : Int} (h : Va p l) {i j : Nat} (hij : i < j) (hj : j < l.length), (l[i]'(by omega)).at' < l[j].at'
  | [], _, _, _, _, _, hj => by simp at hj
  | g :: l, p, h, i, 0, hij, hj => by omega
  | g :: l, p, h, 0, j + 1, hij, hj => (Va_get h.2.2 j (by simpa using hj)).2
  | g :: l, p, h, i + 1, j + 1, hij, hj => Va_mono (l := l) h.2.2 (i := i) (j := j) (by omega) (by simpa using hj)
theorem walk_take {r : Rl} {t : Int} : ∀ {l : List Gt} {s : St} {n : Nat}, n ≤ l.length → (∀ i (h : i < l.length), i < n → l[i].at' ≤ t) → (∀ h : n < l.length, t < l[n].at') → walkS r t s l = hst r s l n
  | [], s, n, hn, _, _ => by simp [walkS, hst]
  | g :: l, s, 0, hn, _, h2 => by
    have := h2 (by simp)
    simp only [List.getElem_cons_zero] at this
    rw [walkS, if_pos this]; rfl
  | g :: l, s, n + 1, hn, h1, h2 => by
    have := h1 0 (by simp) (by omega)
    simp only [List.getElem_cons_zero] at this
    rw [walkS, if_neg (by omega), walk_take (l := l) (n := n) (by simpa using hn) (fun i h hi => h1 (i + 1) (by simpa using h) (by omega)) (fun h => h2 (by simpa using h))]
    rfl
theorem exp_exp {r : Rl} {s : St} {t u : Int} (h : t ≤ u) : expS r (expS r s t) u = expS r s u := by
  by_cases hc : s.up = true ∧ r.tmo < t - s.heard
  · have e1 : expS r s t = endS s := by rw [expS, if_pos hc]
    have e2 : expS r s u = endS s := by rw [expS, if_pos ⟨hc.1, by omega⟩]
    have e3 : expS r (endS s) u = endS s := by rw [expS, if_neg (fun x => by simp [endS] at x)]
    rw [e1, e2, e3]
  · have e1 : expS r s t = s := by rw [expS, if_neg hc]
    rw [e1]
theorem exp_valid {r : Rl} {s : St} {t : Int} (h : ssE s = 0) : ssE (expS r s t) = 0 := by
  unfold expS
  split
  · obtain ⟨h1, h2, h3, h4, h5⟩ := ssE_zero h
    show ssE ⟨false, s.num, 0, s.heard, -1⟩ = 0
    rw [ssE_f, if_pos ⟨h1, by unfold tk; omega, h3, by unfold mo; omega⟩, if_pos ⟨rfl, rfl⟩]
  · exact h
theorem hst_ok {r : Rl} {l : List Gt} (hV : Va (-1) l) (hl : l.length ≤ 1000) : ∀ n, n ≤ l.length → ssE (hst r st0 l n) = 0 ∧ Inv n (hst r st0 l n) ∧ (∀ h : 0 < n, ∀ h2 : n - 1 < l.length, (hst r st0 l n).heard = l[n - 1].at') ∧ (n = 0 → (hst r st0 l n).heard = -1)
  | 0, _ => ⟨by rw [show hst r st0 l 0 = st0 from rfl, st0, ssE_f, if_pos ⟨by omega, by unfold tk; omega, by unfold mo; omega, by unfold mo; omega⟩, if_pos ⟨rfl, rfl⟩], by simp [hst, Inv, st0], fun h => by omega, fun _ => rfl⟩
  | n + 1, hn => by
    obtain ⟨h1, h2, h3, h4⟩ := hst_ok hV hl n (by omega)
    have hg := Va_get hV n (by omega)
    have hlt : (hst r st0 l n).heard < l[n].at' := by
      by_cases h0 : n = 0
      · rw [h4 h0]; exact hg.2
      · rw [h3 (by omega) (by omega)]; exact Va_mono hV (by omega) (by omega)
    have hj := h2.hear (r := r) (e := l[n]) (by omega) hg.1
    rw [hst_succ (by omega)]
    exact ⟨hear_valid h1 hg.1 hlt hj.2.2, hj.1, fun _ _ => hj.2.1, fun h => by omega⟩
theorem hear_raise {r : Rl} {s : St} {e : Gt} (hn : s.num < 62500) (h : r.raise ≤ e.lo) : (hearS r s e).1.up = true := by
  have h1 : (expS r s e.at').num = s.num := by unfold expS endS; split <;> rfl
  have hh : hearS r s e = finS r (midS r (expS r s e.at') e) e := rfl
  rw [hh]
  have h2 : (midS r (expS r s e.at') e).num = s.num := by
    generalize expS r s e.at' = s1 at *
    unfold midS
    split
    · have key : ∀ a : St, a.num = s.num → (if ¬ a.quiet = -1 ∧ r.hold ≤ e.at' - a.quiet then endS a else a).num = s.num := fun a ha => by
        split
        · exact ha
        · exact ha
      refine key _ ?_
      split
      · exact h1
      · split <;> exact h1
    · exact h1
  generalize midS r (expS r s e.at') e = s2 at *
  unfold finS
  by_cases hu : s2.up = true
  · rw [if_neg (fun x => by rw [hu] at x; simp at x)]; exact hu
  · rw [if_pos ⟨by simpa using hu, h⟩, if_neg (by omega)]
/-- no alert ends -/
def D (s : St) : Prop := s.up = true ∧ s.num = 1 ∨ s.up = false ∧ s.num = 0
theorem D.hear {r : Rl} {s : St} {e : Gt} (h : D s) (h1 : s.up = true → e.at' - s.heard ≤ r.tmo) (h2 : r.clear ≤ e.hi) : D (hearS r s e).1 := by
  have hx : expS r s e.at' = s := by
    rw [expS, if_neg]
    rintro ⟨x, y⟩
    have := h1 x; omega
  have hh : hearS r s e = finS r (midS r (expS r s e.at') e) e := rfl
  rw [hh, hx]
  have hm : (midS r s e).up = s.up ∧ (midS r s e).num = s.num := by
    unfold midS
    by_cases hu : s.up = true
    · rw [if_pos hu]
      simp only [h2, if_true, not_true_eq_false, false_and, if_false]
      exact ⟨trivial, trivial⟩
    · rw [if_neg hu]; exact ⟨rfl, rfl⟩
  generalize midS r s e = s2 at *
  obtain ⟨m1, m2⟩ := hm
  unfold finS
  rcases h with ⟨a, b⟩ | ⟨a, b⟩
  · rw [if_neg (fun x => by rw [m1, a] at x; simp at x)]
    exact .inl ⟨by simp only; rw [m1, a], by simp only; omega⟩
  · by_cases hc : r.raise ≤ e.lo
    · rw [if_pos ⟨by rw [m1, a], hc⟩, if_neg (by omega)]
      exact .inl ⟨rfl, by simp only; omega⟩
    · rw [if_neg (fun x => hc x.2)]
      exact .inr ⟨by simp only; rw [m1, a], by simp only; omega⟩
theorem D.all {r : Rl} {l : List Gt} (hV : Va (-1) l) (hl : l.length ≤ 1000) : ∀ n, n ≤ l.length → (∀ j (h : j < l.length), 0 < j → j < n → l[j].at' - (l[j - 1]'(by omega)).at' ≤ r.tmo) → (∀ j (h : j < l.length), j < n → r.clear ≤ l[j].hi) → D (hst r st0 l n)
  | 0, _, _, _ => .inr ⟨rfl, rfl⟩
  | n + 1, hn, h1, h2 => by
    have hD := D.all hV hl n (by omega) (fun j h a b => h1 j h a (by omega)) fun j h a => h2 j h (by omega)
    obtain ⟨_, _, h3, h4⟩ := hst_ok (r := r) hV hl n (by omega)
    rw [hst_succ (by omega)]
    refine hD.hear (fun hu => ?_) (h2 n (by omega) (by omega))
    by_cases h0 : n = 0
    · subst h0; simp [hst, st0] at hu
    · rw [h3 (by omega) (by omega)]; exact h1 n (by omega) (by omega) (by omega)
/-! what the law asks of each event -/
theorem at_event {r : Rl} {l : List Gt} (hr : 1 ≤ r.tmo) (he : evsE r l = 0) (hl : l.length ≤ 1000) {n : Nat} (hn : n < l.length) : stateL r l l[n].at' = (hst r st0 l (n + 1), 0) ∧ (hst r st0 l (n + 1)).heard = l[n].at' ∧ (r.raise ≤ l[n].lo → (hst r st0 l (n + 1)).up = true) ∧ (alertsL r l).1.any (inA l[n].at') = (hst r st0 l (n + 1)).up := by
  have hx := (evsE_zero he).2
  have hV := chkX_Va hx
  have hg := Va_get hV n hn
  have hat := (evE_zero hg.1).1
  obtain ⟨h1, h2, h3, _⟩ := hst_ok (r := r) hV hl (n + 1) (by omega)
  have h3 := h3 (by omega) (by simpa using hn)
  simp only [Nat.add_sub_cancel] at h3
  have hw : walkS r l[n].at' st0 l = hst r st0 l (n + 1) := walk_take (by omega) (fun i h hi => by
    rcases Nat.lt_or_ge i n with q | q
    · exact Int.le_of_lt (Va_mono hV q hn)
    · have : i = n := by omega
      subst this; exact Int.le_refl _) fun h => Va_mono hV (by omega) h
  have hst : stateL r l l[n].at' = (hst r st0 l (n + 1), 0) := by
    have : staE r l l[n].at' = 0 := by simp [staE, firstE, he, unl, hat]
    simp only [stateL, this, if_true, hw]
    rw [expS_no (by rw [h3]; omega)]
  refine ⟨hst, h3, fun hra => ?_, ?_⟩
  · have hi := (hst_ok (r := r) hV hl n (by omega)).2.1
    rw [hst_succ hn]
    exact hear_raise (by have := hi.2.2; omega) hra
  · have := stands_all (r := r) (t := l[n].at') hr (l := l) (last := -1) (n := 0) (s := st0) (o := none) ⟨rfl, rfl⟩ (by simp [Inv, st0]) (by omega) rfl hV (by omega)
    simp only [alertsL, he, if_true]
    rw [this, hw, expS_no (by rw [h3]; omega)]
theorem between {r : Rl} {l : List Gt} {t : Int} (hr : 1 ≤ r.tmo) (he : evsE r l = 0) (hl : l.length ≤ 1000) {n : Nat} (hn : n < l.length) (h0 : 0 < n) (h1 : (l[n - 1]'(by omega)).at' ≤ t) (h2 : t < l[n].at') : ∃ B, stateL r l t = (B, 0) ∧ nextL r B l[n] = (hst r st0 l (n + 1), 0) := by
  have hx := (evsE_zero he).2
  have hV := chkX_Va hx
  have hg := Va_get hV n hn
  have hg1 := Va_get hV (n - 1) (by omega)
  have hat := (evE_zero hg.1).1
  have hat1 := (evE_zero hg1.1).1
  obtain ⟨k1, k2, k3, _⟩ := hst_ok (r := r) hV hl n (by omega)
  have k3 := k3 h0 (by omega)
  have hw : walkS r t st0 l = hst r st0 l n := walk_take (by omega) (fun i h hi => by
    rcases Nat.lt_or_ge i (n - 1) with q | q
    · exact Int.le_trans (Int.le_of_lt (Va_mono hV q (by omega))) h1
    · have : i = n - 1 := by omega
      subst this; exact h1) fun h => h2
  have hs : stateL r l t = (expS r (hst r st0 l n) t, 0) := by
    have : staE r l t = 0 := by
      have : 0 ≤ t ∧ t ≤ 1000000000000 := by omega
      simp [staE, firstE, he, unl, this]
    simp only [stateL, this, if_true, hw]
  refine ⟨_, hs, ?_⟩
  have hv := exp_valid (r := r) (t := t) k1
  have hh : hearS r (expS r (hst r st0 l n) t) l[n] = hearS r (hst r st0 l n) l[n] := by
    simp only [hearS, exp_exp (Int.le_of_lt h2)]
  have hj := k2.hear (r := r) (e := l[n]) (by omega) hg.1
  have hhd : (expS r (hst r st0 l n) t).heard = (hst r st0 l n).heard := by unfold expS endS; split <;> rfl
  have hlt : (expS r (hst r st0 l n) t).heard < l[n].at' := by rw [hhd, k3]; omega
  have hne : nexE r (expS r (hst r st0 l n) t) l[n] = 0 := by simp [nexE, firstE, (evsE_zero he).1, hv, hg.1, unl, hlt]
  simp only [nextL, hne, if_true, hh, hj.2.2]
  rw [hst_succ hn]
  exact Prod.ext rfl hj.2.2
theorem few_alerts {r : Rl} {l : List Gt} (hr : 1 ≤ r.tmo) (he : evsE r l = 0) (hl : l.length ≤ 1000) : QA (alertsL r l).1 ∧ ((∀ j (h : j < l.length), 0 < j → l[j].at' - (l[j - 1]'(by omega)).at' ≤ r.tmo) → (∀ j (h : j < l.length), r.clear ≤ l[j].hi) → (alertsL r l).1.length ≤ 1) := by
  have hx := (evsE_zero he).2
  have hV := chkX_Va hx
  obtain ⟨last', h⟩ := J.all (r := r) hr (l := l) (last := -1) (n := 0) (s := st0) (o := none) ⟨rfl, rfl⟩ (by simp [Inv, st0]) (by omega) rfl hV
  have hq := h.QA
  simp only [alertsL, he, if_true]
  refine ⟨hq.1, fun h1 h2 => ?_⟩
  have hD := D.all (r := r) hV hl l.length (Nat.le_refl _) (fun j h a _ => h1 j h a) fun j h _ => h2 j h
  have e1 : hst r st0 l l.length = l.foldl (fun s e => (hearS r s e).1) st0 := by simp [hst]
  rw [e1] at hD
  have : (l.foldl (fun s e => (hearS r s e).1) st0).num ≤ 1 := by rcases hD with ⟨_, h⟩ | ⟨_, h⟩ <;> omega
  have := hq.2
  omega
theorem stands_at {r : Rl} {l : List Gt} {t : Int} (hr : 1 ≤ r.tmo) (he : evsE r l = 0) (hl : l.length ≤ 1000) (ht : 0 ≤ t ∧ t ≤ 1000000000000) : (stateL r l t).2 = 0 ∧ (alertsL r l).1.any (inA t) = (stateL r l t).1.up := by
  have hx := (evsE_zero he).2
  have hV := chkX_Va hx
  have := stands_all (r := r) (t := t) hr (l := l) (last := -1) (n := 0) (s := st0) (o := none) ⟨rfl, rfl⟩ (by simp [Inv, st0]) (by omega) rfl hV (by omega)
  have h0 : staE r l t = 0 := by simp [staE, firstE, he, unl, ht]
  simp only [alertsL, he, stateL, h0, if_true, this]
  exact ⟨trivial, trivial⟩
end Sh
