import Derived.Test.YtjfhhaaogcgkpaaEngS9
import Derived.Test.YtjfhhaaogcgkpaaC27
open Go Go.Proofs Eng
set_option maxRecDepth 100000
set_option linter.unusedSimpArgs false
set_option linter.unusedVariables false
def a58 : AC := .seq (.ops false [] [⟨some 4, .p (.mov), [.c (.bool false)], none⟩]) (.seq (.seq (.ops false [] [⟨some 5, .p (.mov), [.c (.int .i64 0)], none⟩]) (.block 0 (.loop (.seq (.seq (.ops false [] [⟨some 6, .p (.mov), [.t 5], none⟩, ⟨some 7, .p (.mov), [.t 0], none⟩, ⟨some 8, .p (.lenS), [.t 7], none⟩, ⟨some 9, .p (.binI .lss), [.t 6, .t 8], none⟩]) (.cond (.t 9) (.skip) (.exit 0))) (.seq (.block 1 (.seq (.ops true [] [⟨some 12, .p (.mov), [.t 1], none⟩, ⟨some 13, .p (.mov), [.t 0], none⟩, ⟨some 14, .p (.mov), [.t 5], none⟩, ⟨some 15, .p (.iaddrS 3), [.t 13, .t 14], none⟩, ⟨some 16, .p (.faddr 1), [.t 15], none⟩, ⟨some 17, .load 1 false, [.t 16], none⟩, ⟨some 18, .p (.mov), [.t 0], none⟩, ⟨some 19, .p (.mov), [.t 5], none⟩, ⟨some 20, .p (.iaddrS 3), [.t 18, .t 19], none⟩, ⟨some 21, .p (.faddr 2), [.t 20], none⟩, ⟨some 22, .load 1 false, [.t 21], none⟩, ⟨some 23, .call 33, [.t 12, .t 17, .t 22], none⟩]) (.cond (.t 23) (.seq (.ops false [] [⟨some 4, .p (.mov), [.c (.bool true)], none⟩]) (.ret)) (.skip)))) (.ops false [] [⟨some 10, .p (.mov), [.t 5], none⟩, ⟨some 11, .p (.binI .add), [.t 10, .c (.int .i64 1)], none⟩, ⟨some 5, .p (.mov), [.t 11], none⟩])))))) (.seq (.ops false [] [⟨some 4, .p (.mov), [.c (.bool false)], none⟩]) (.ret)))
theorem c58 : FnC Try.prog 58 24 a58 [.tmp 4] := ⟨Try.call58, _, _, Try.func58, rfl, by kernel_rfl, by kernel_rfl, rfl⟩
namespace Sh

/-! which ticks the alerts contain -/
def inA (t : Int) (a : Al) : Bool := decide (a.fr ≤ t ∧ t ≤ a.to)
def S58 (l : List Al) (t : Int) (n : Nat) : AState := ⟨[.vs (l.map eA), I t, .any, .any, B false, I n, .any, .any, .any, .any, .any, .any, .any, .any, .any, .any, .any, .any, .any, .any, .any, .any, .any, .any], [], 0⟩
theorem k58 (l : List Al) (t : Int) (hl : l.length ≤ 1099511627776) : FOk P 58 [.vs (l.map eA), I t] (B (l.any (inA t))) := by
  refine c58.fok (by simp only [subs, sub1, free_A]) (Cor.run (addC_good g33 (noC_good _)) (noHx_good _) hm ?_)
  simp +contextual -implicitDefEqProofs (maxSteps := 2000000) only [bg_eq, a58, List.length_map, ruB, rh_no, Int.reduceLT, Int.reduceLE, Int.reduceAdd, Int.reduceSub, Int.reduceMul, Int.reduceNeg, Int.reduceToNat, Int.reduceEq, Int.reduceNe, Int.reduceTDiv, Int.reduceTMod, implies_true, putL, appN, appX, Eng.Fi, reduceCtorEq, exists_eq_left', exists_eq_left, if_true, if_false, List.replicate, Nat.reduceAdd, Nat.reduceSub, Nat.reduceMul, Nat.reduceLeDiff, Nat.reduceLT, Nat.reduceEqDiff]
  refine Cor.lp (addC_good g33 (noC_good _)) (noHx_good _) hm (S58 l t) (fun n => n ≤ l.length ∧ l.any (inA t) = (l.drop n).any (inA t)) (fun n => l.length - n) (a := 0) ⟨Nat.zero_le _, by simp⟩ (Wkn.keep [0, 1, 4, 5] rfl) ?_
  intro f n ⟨hn, ht⟩ go
  rcases Nat.lt_or_ge n l.length with h | h
  · have e1 : decide ((n : Int) < (l.length : Int)) = true := by simp; omega
    have e2 : (l.map eA)[n]? = some (eA l[n]) := by simp [h]
    have e3 : IntKind.wrap .i64 ((n : Int) + 1) = ((n + 1 : Nat) : Int) := by rw [wrap64 (by omega) (by omega)]; rfl
    rw [List.drop_eq_getElem_cons h, List.any_cons] at ht
    generalize l[n] = g at *
    by_cases hc : g.fr ≤ t ∧ t ≤ g.to
    · have hr : l.any (inA t) = true := by rw [ht]; simp only [inA, hc, and_self, decide_true, Bool.true_or]
      simp +contextual -implicitDefEqProofs (maxSteps := 2000000) only [S58, e1, e2, e3, x33, hc, List.length_map, hr, ruB, rh_no, Int.reduceLT, Int.reduceLE, Int.reduceAdd, Int.reduceSub, Int.reduceMul, Int.reduceNeg, Int.reduceToNat, Int.reduceEq, Int.reduceNe, Int.reduceTDiv, Int.reduceTMod, implies_true, putL, appN, appX, Eng.Fi, reduceCtorEq, exists_eq_left', exists_eq_left, if_true, if_false, List.replicate, Nat.reduceAdd, Nat.reduceSub, Nat.reduceMul, Nat.reduceLeDiff, Nat.reduceLT, Nat.reduceEqDiff]
    · rw [show inA t g = false by simp only [inA, hc, decide_false], Bool.false_or] at ht
      simp +contextual -implicitDefEqProofs (maxSteps := 2000000) only [S58, e1, e2, e3, x33, hc, List.length_map, ruB, rh_no, Int.reduceLT, Int.reduceLE, Int.reduceAdd, Int.reduceSub, Int.reduceMul, Int.reduceNeg, Int.reduceToNat, Int.reduceEq, Int.reduceNe, Int.reduceTDiv, Int.reduceTMod, implies_true, putL, appN, appX, Eng.Fi, reduceCtorEq, exists_eq_left', exists_eq_left, if_true, if_false, List.replicate, Nat.reduceAdd, Nat.reduceSub, Nat.reduceMul, Nat.reduceLeDiff, Nat.reduceLT, Nat.reduceEqDiff]
      exact go _ (n + 1) ⟨h, ht⟩ (by omega) (Wkn.keep [0, 1, 4, 5] rfl)
  · have e1 : decide ((n : Int) < (l.length : Int)) = false := by simp; omega
    rw [List.drop_eq_nil_of_le h] at ht
    have hr : l.any (inA t) = false := by simp only [ht, List.any_nil]
    simp +contextual -implicitDefEqProofs (maxSteps := 2000000) only [S58, e1, List.length_map, hr, ruB, rh_no, Int.reduceLT, Int.reduceLE, Int.reduceAdd, Int.reduceSub, Int.reduceMul, Int.reduceNeg, Int.reduceToNat, Int.reduceEq, Int.reduceNe, Int.reduceTDiv, Int.reduceTMod, implies_true, putL, appN, appX, Eng.Fi, reduceCtorEq, exists_eq_left', exists_eq_left, if_true, if_false, List.replicate, Nat.reduceAdd, Nat.reduceSub, Nat.reduceMul, Nat.reduceLeDiff, Nat.reduceLT, Nat.reduceEqDiff]
def c58f : List AV → Option AV
  | [.vs vals, .int .i64 t] => onL dA vals fun l => if l.length ≤ 1099511627776 then some (.bool (l.any (inA t))) else none
  | _ => none
theorem g58 : Fn P 58 c58f := fun args v h => by
  unfold c58f at h; split at h
  · obtain ⟨l, rfl, h2⟩ := onL_inv dA_inv h
    split at h2
    · rename_i hc; cases h2; exact k58 l _ hc
    · cases h2
  · cases h
theorem x58 (l : List Al) (t : Int) (h : (l.length ≤ 1099511627776) = True) : c58f [.vs (l.map eA), .int .i64 t] = some (.bool (l.any (inA t))) := by
  simp only [c58f, onL_map dA_e, h, if_true]

theorem hear_keep {r : Rl} {s : St} {e : Gt} (hu : (hearS r s e).1.up = true) (h : ¬ s.num < (hearS r s e).1.num) : s.up = true ∧ (hearS r s e).1.since = s.since ∧ e.at' - s.heard ≤ r.tmo := by
  have hh : hearS r s e = finS r (midS r (expS r s e.at') e) e := rfl
  rw [hh] at hu h ⊢
  have key : ∀ s2 : St, s2.num = s.num → (finS r s2 e).1.up = true → ¬ s.num < (finS r s2 e).1.num → s2.up = true ∧ (finS r s2 e).1.since = s2.since := by
    intro s2 h2 hu h
    unfold finS at hu h ⊢
    by_cases hc : s2.up = false ∧ r.raise ≤ e.lo
    · rw [if_pos hc] at hu h
      by_cases hn : s2.num = 62500
      · rw [if_pos hn] at hu; simp only at hu; rw [hc.1] at hu; cases hu
      · rw [if_neg hn] at h; simp only at h; omega
    · rw [if_neg hc] at hu ⊢; exact ⟨hu, rfl⟩
  have hmid : ∀ s1 : St, s1.num = s.num → (midS r s1 e).num = s.num ∧ ((midS r s1 e).up = true → s1.up = true ∧ (midS r s1 e).since = s1.since) := by
    intro s1 h1
    have key2 : ∀ a : St, a.num = s.num → (a.up = true → s1.up = true ∧ a.since = s1.since) → (if ¬ a.quiet = -1 ∧ r.hold ≤ e.at' - a.quiet then endS a else a).num = s.num ∧ ((if ¬ a.quiet = -1 ∧ r.hold ≤ e.at' - a.quiet then endS a else a).up = true → s1.up = true ∧ (if ¬ a.quiet = -1 ∧ r.hold ≤ e.at' - a.quiet then endS a else a).since = s1.since) := fun a ha hb => by
      split
      · exact ⟨ha, fun x => by simp [endS] at x⟩
      · exact ⟨ha, hb⟩
    unfold midS
    by_cases hu1 : s1.up = true
    · rw [if_pos hu1]
      refine key2 _ ?_ ?_
      · split
        · exact h1
        · split <;> exact h1
      · intro _
        refine ⟨hu1, ?_⟩
        split
        · rfl
        · split <;> rfl
    · rw [if_neg hu1]
      exact ⟨h1, fun x => ⟨x, rfl⟩⟩
  by_cases hx : s.up = true ∧ r.tmo < e.at' - s.heard
  · have h1 : expS r s e.at' = endS s := by rw [expS, if_pos hx]
    rw [h1] at hu h
    obtain ⟨g1, g2⟩ := hmid (endS s) rfl
    obtain ⟨g3, _⟩ := key _ g1 hu h
    have := (g2 g3).1
    simp [endS] at this
  · have h1 : expS r s e.at' = s := by rw [expS, if_neg hx]
    rw [h1] at hu h ⊢
    obtain ⟨g1, g2⟩ := hmid s rfl
    obtain ⟨g3, g4⟩ := key _ g1 hu h
    obtain ⟨g5, g6⟩ := g2 g3
    refine ⟨g5, by rw [g4, g6], ?_⟩
    rcases Int.lt_or_le r.tmo (e.at' - s.heard) with hq | hq
    · exact absurd ⟨g5, hq⟩ hx
    · exact hq

/-- alerts that are numbered, and ascend -/
def QA (L : List Al) : Prop := ∀ i (h : i < L.length), L[i].num = i + 1 ∧ L[i].fr ≤ L[i].to ∧ ∀ h0 : 0 < i, (L[i - 1]'(by omega)).to < L[i].fr
theorem QA.nil : QA [] := fun i h => by simp at h
theorem QA.snoc {m : List Al} {a : Al} (h : QA m) (h1 : ∀ x ∈ m, x.to < a.fr) (h2 : a.num = m.length + 1) (h3 : a.fr ≤ a.to) : QA (m ++ [a]) := by
  intro i hi
  by_cases hm : i < m.length
  · rw [List.getElem_append_left hm]
    obtain ⟨g1, g2, g3⟩ := h i hm
    refine ⟨g1, g2, fun h0 => ?_⟩
    rw [List.getElem_append_left (by omega)]
    exact g3 h0
  · simp only [List.length_append, List.length_cons, List.length_nil] at hi
    have hi : i = m.length := by omega
    subst hi
    have e : (m ++ [a])[m.length]'(by simp) = a := by simp
    rw [e]
    refine ⟨h2, h3, fun h0 => ?_⟩
    rw [List.getElem_append_left (by omega)]
    exact h1 _ (by simp)
/-- state and alerts after the event at the tick last -/
def J (r : Rl) (last : Int) (s : St) : Ou → Prop
  | none => s.num = 0 ∧ s.up = false
  | some (m, a) => QA m ∧ (∀ x ∈ m, x.to < a.fr) ∧ a.num = m.length + 1 ∧ s.num = m.length + 1 ∧ a.fr ≤ a.to ∧ a.fr ≤ last ∧ (s.up = true → s.since = a.fr ∧ a.to = last + r.tmo) ∧ (s.up = false → a.to < last)
theorem J.step {r : Rl} {last : Int} {n : Nat} {s : St} {o : Ou} {e : Gt} (hr : 1 ≤ r.tmo) (h : J r last s o) (hi : Inv n s) (hn : n ≤ 1000) (hl : s.heard = last) (hlt : last < e.at') (he : evE e = 0) :
    J r e.at' (hearS r s e).1 (stA r (s, o) e).2 ∧ ∀ t, t < e.at' → (stA r (s, o) e).2.l.any (inA t) = o.l.any (inA t) := by
  have h0 := (evE_zero he).1
  have hin := hear_inv (r := r) (s := s) (e := e) h0 hi.2.1 (by have := hi.2.2; omega)
  obtain ⟨-, -, g3, g4, -, -⟩ := hin
  have hk := hear_keep (r := r) (s := s) (e := e)
  have hs1 := hear_si (r := r) (s := s) (e := e)
  have hs2 := hear_since2 (r := r) (s := s) (e := e)
  simp only [stA]
  generalize (hearS r s e).1 = s' at *
  have hup : s'.up = true ∨ s'.up = false := by cases s'.up <;> simp
  have hsu : s.up = true ∨ s.up = false := by cases s.up <;> simp
  have anyL : ∀ (m : List Al) (a : Al) (t : Int), (m ++ [a]).any (inA t) = (m.any (inA t) || inA t a) := fun m a t => by simp
  cases o with
  | none =>
    obtain ⟨j1, j2⟩ := h
    simp only [j2, Bool.false_eq_true, if_false]
    by_cases hlt2 : s.num < s'.num
    · have u := hs2 hlt2
      have v := hs1 hlt2
      simp only [hlt2, if_true, u, appO, setO, Ou.l]
      refine ⟨⟨QA.nil, by simp, by simp only [List.length_nil]; omega, by simp only [List.length_nil]; omega, by simp only; omega, by simp only; omega, fun _ => ⟨by simp only, by simp only⟩, fun x => by rw [u] at x; cases x⟩, fun t ht => ?_⟩
      simp only [List.nil_append, List.any_cons, List.any_nil, Bool.or_false, inA, decide_eq_false_iff_not]
      omega
    · have u : s'.up = false := hup.elim (fun x => by have := (hk x hlt2).1; rw [j2] at this; cases this) id
      simp only [hlt2, if_false, u, Bool.false_eq_true]
      exact ⟨⟨by omega, u⟩, fun _ _ => by first | rfl | trivial⟩
  | some p =>
    obtain ⟨m, a⟩ := p
    obtain ⟨j1, j2, j3, j4, j5, j6, j7, j8⟩ := h
    rcases hsu with hsu | hsu
    · obtain ⟨k1, k2⟩ := j7 hsu
      simp only [hsu, if_true, setO]
      by_cases hlt2 : s.num < s'.num
      · have u := hs2 hlt2
        have v := hs1 hlt2
        simp only [hlt2, if_true, u, appO, setO]
        refine ⟨⟨j1.snoc j2 j3 (by simp only; omega), fun x hx => ?_, by simp only [List.length_append, List.length_cons, List.length_nil]; omega, by simp only [List.length_append, List.length_cons, List.length_nil]; omega, by simp only; omega, by simp only; omega, fun _ => ⟨by simp only, by simp only⟩, fun x => by rw [u] at x; cases x⟩, fun t ht => ?_⟩
        · simp only [List.mem_append, List.mem_singleton] at hx
          simp only
          rcases hx with hx | rfl
          · have := j2 x hx; omega
          · simp only; omega
        · simp only [Ou.l, anyL, Bool.or_assoc]
          congr 1
          simp only [inA]
          rw [← Bool.decide_or, decide_eq_decide]
          omega
      · rcases hup with u | u
        · obtain ⟨q1, q2, q3⟩ := hk u hlt2
          simp only [hlt2, if_false, u, if_true, setO]
          refine ⟨⟨j1, fun x hx => by have := j2 x hx; simp only; omega, by simp only; omega, by omega, by simp only; omega, by simp only; omega, fun _ => ⟨by simp only; omega, by simp only⟩, fun x => by rw [u] at x; cases x⟩, fun t ht => ?_⟩
          simp only [Ou.l, anyL]
          congr 1
          simp only [inA]
          rw [decide_eq_decide]
          omega
        · simp only [hlt2, if_false, u, Bool.false_eq_true]
          refine ⟨⟨j1, fun x hx => by have := j2 x hx; simp only; omega, by simp only; omega, by omega, by simp only; omega, by simp only; omega, fun x => (by rw [u] at x; cases x), fun _ => (by simp only; omega)⟩, fun t ht => ?_⟩
          simp only [Ou.l, anyL]
          congr 1
          simp only [inA]
          rw [decide_eq_decide]
          omega
    · have k2 := j8 hsu
      simp only [hsu, Bool.false_eq_true, if_false]
      by_cases hlt2 : s.num < s'.num
      · have u := hs2 hlt2
        have v := hs1 hlt2
        simp only [hlt2, if_true, u, appO, setO]
        refine ⟨⟨j1.snoc j2 j3 j5, fun x hx => ?_, by simp only [List.length_append, List.length_cons, List.length_nil]; omega, by simp only [List.length_append, List.length_cons, List.length_nil]; omega, by simp only; omega, by simp only; omega, fun _ => ⟨by simp only, by simp only⟩, fun x => by rw [u] at x; cases x⟩, fun t ht => ?_⟩
        · simp only [List.mem_append, List.mem_singleton] at hx
          simp only
          rcases hx with hx | rfl
          · have := j2 x hx; omega
          · omega
        · simp only [Ou.l, anyL, Bool.or_assoc]
          congr 1
          simp only [inA]
          rw [← Bool.decide_or, decide_eq_decide]
          omega
      · have u : s'.up = false := hup.elim (fun x => by have := (hk x hlt2).1; rw [hsu] at this; cases this) id
        simp only [hlt2, if_false, u, Bool.false_eq_true]
        exact ⟨⟨j1, j2, j3, by omega, j5, by omega, fun x => (by rw [u] at x; cases x), fun _ => by omega⟩, fun _ _ => by first | rfl | trivial⟩
theorem J.now {r : Rl} {last t : Int} {s : St} {o : Ou} (h : J r last s o) (hl : s.heard = last) (ht : last ≤ t) : o.l.any (inA t) = (expS r s t).up := by
  have hsu : s.up = true ∨ s.up = false := by cases s.up <;> simp
  cases o with
  | none =>
    have : expS r s t = s := by rw [expS, if_neg (fun x => by rw [h.2] at x; simp at x)]
    rw [this, h.2]; rfl
  | some p =>
    obtain ⟨m, a⟩ := p
    obtain ⟨j1, j2, j3, j4, j5, j6, j7, j8⟩ := h
    have hm : m.any (inA t) = false := by
      rw [List.any_eq_false]
      intro x hx
      have := j2 x hx
      simp only [inA, decide_eq_true_eq]; omega
    simp only [Ou.l, List.any_append, hm, Bool.false_or, List.any_cons, List.any_nil, Bool.or_false]
    rcases hsu with hsu | hsu
    · obtain ⟨k1, k2⟩ := j7 hsu
      by_cases hx : r.tmo < t - s.heard
      · rw [expS, if_pos ⟨hsu, hx⟩]
        simp only [inA, endS, decide_eq_false_iff_not]; omega
      · rw [expS, if_neg (fun x => hx x.2), hsu]
        simp only [inA, decide_eq_true_eq]; omega
    · have k2 := j8 hsu
      rw [expS, if_neg (fun x => by rw [hsu] at x; simp at x), hsu]
      simp only [inA, decide_eq_false_iff_not]; omega
theorem J.later {r : Rl} {t : Int} (hr : 1 ≤ r.tmo) : ∀ {l : List Gt} {last : Int} {n : Nat} {s : St} {o : Ou}, J r last s o → Inv n s → n + l.length ≤ 1000 → s.heard = last → Va last l → (∀ e ∈ l, t < e.at') → (l.foldl (stA r) (s, o)).2.l.any (inA t) = o.l.any (inA t)
  | [], _, _, _, _, _, _, _, _, _, _ => rfl
  | e :: l, last, n, s, o, h, hi, hn, hl, hV, ht => by
    obtain ⟨v1, v2, v3⟩ := hV
    simp only [List.length_cons] at hn
    have hj := hi.hear (r := r) (e := e) (by omega) v1
    obtain ⟨g1, g2⟩ := h.step hr hi (by omega) hl v2 v1
    rw [List.foldl_cons]
    have e1 : stA r (s, o) e = ((hearS r s e).1, (stA r (s, o) e).2) := rfl
    rw [e1, J.later hr g1 hj.1 (by omega) hj.2.1 v3 fun x hx => ht x (by simp [hx])]
    exact g2 t (ht e (by simp))
theorem stands_all {r : Rl} {t : Int} (hr : 1 ≤ r.tmo) : ∀ {l : List Gt} {last : Int} {n : Nat} {s : St} {o : Ou}, J r last s o → Inv n s → n + l.length ≤ 1000 → s.heard = last → Va last l → last ≤ t → (l.foldl (stA r) (s, o)).2.l.any (inA t) = (expS r (walkS r t s l) t).up
  | [], _, _, _, _, h, _, _, hl, _, ht => h.now hl ht
  | e :: l, last, n, s, o, h, hi, hn, hl, hV, ht => by
    have hV' := hV
    obtain ⟨v1, v2, v3⟩ := hV
    simp only [List.length_cons] at hn
    by_cases hte : t < e.at'
    · rw [walkS, if_pos hte, J.later hr h hi (by simp only [List.length_cons]; omega) hl hV' fun x hx => ?_]
      · exact h.now hl ht
      · rcases List.mem_cons.1 hx with rfl | hx
        · exact hte
        · have := (Va_all v3 x hx).2; omega
    · have hj := hi.hear (r := r) (e := e) (by omega) v1
      obtain ⟨g1, g2⟩ := h.step hr hi (by omega) hl v2 v1
      rw [walkS, if_neg hte, List.foldl_cons]
      have e1 : stA r (s, o) e = ((hearS r s e).1, (stA r (s, o) e).2) := rfl
      rw [e1]
      exact stands_all hr g1 hj.1 (by omega) hj.2.1 v3 (by omega)
theorem J.all {r : Rl} (hr : 1 ≤ r.tmo) : ∀ {l : List Gt} {last : Int} {n : Nat} {s : St} {o : Ou}, J r last s o → Inv n s → n + l.length ≤ 1000 → s.heard = last → Va last l → ∃ last', J r last' (l.foldl (fun s e => (hearS r s e).1) s) (l.foldl (stA r) (s, o)).2
  | [], last, _, _, _, h, _, _, _, _ => ⟨last, h⟩
  | e :: l, last, n, s, o, h, hi, hn, hl, hV => by
    obtain ⟨v1, v2, v3⟩ := hV
    simp only [List.length_cons] at hn
    have hj := hi.hear (r := r) (e := e) (by omega) v1
    obtain ⟨g1, g2⟩ := h.step hr hi (by omega) hl v2 v1
    rw [List.foldl_cons, List.foldl_cons]
    have e1 : stA r (s, o) e = ((hearS r s e).1, (stA r (s, o) e).2) := rfl
    rw [e1]
    exact J.all hr g1 hj.1 (by omega) hj.2.1 v3
theorem J.QA {r : Rl} {last : Int} {s : St} {o : Ou} (h : J r last s o) : QA o.l ∧ (o.l.length : Int) = s.num := by
  cases o with
  | none => exact ⟨Sh.QA.nil, by rw [h.1]; rfl⟩
  | some p =>
    obtain ⟨m, a⟩ := p
    obtain ⟨j1, j2, j3, j4, j5, j6, j7, j8⟩ := h
    exact ⟨j1.snoc j2 j3 j5, by simp [Ou.l]; omega⟩
end Sh
