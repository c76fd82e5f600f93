import Derived.Test.YtjfhhaaogcgkpaaEngS9
import Derived.Test.YtjfhhaaogcgkpaaC23
import Derived.Test.YtjfhhaaogcgkpaaC20
open Go Go.Proofs Eng
set_option maxRecDepth 100000
set_option linter.unusedSimpArgs false
set_option linter.unusedVariables false
def a32 : AC := .seq (.ops false [] [⟨some 2, .p (.mov), [.c (.int .i64 0)], none⟩]) (.seq (.ops false [] [⟨some 6, .p (.mov), [.t 0], none⟩, ⟨some 7, .call 26, [.t 6], none⟩, ⟨some 5, .p (.mov), [.t 7], none⟩, ⟨some 8, .p (.ext 0), [.t 5], none⟩, ⟨some 9, .p (.ext 1), [.t 5], none⟩, ⟨some 3, .p (.mov), [.t 8], none⟩, ⟨some 4, .p (.mov), [.t 9], none⟩]) (.seq (.ops false [] [⟨some 10, .p (.mov), [.t 4], none⟩, ⟨some 2, .p (.mov), [.t 10], none⟩]) (.ret)))
theorem c32 : FnC Try.prog 32 11 a32 [.tmp 2] := ⟨Try.call32, _, _, Try.func32, rfl, by kernel_rfl, by kernel_rfl, rfl⟩
namespace Sh

theorem k32 (l : List Gt) (hl : l.length ≤ 1099511627776) : FOk P 32 [.vs (l.map eG)] (I (chkX l).2) := by
  have h' : (l.length ≤ 1099511627776) = True := by simp [hl]
  refine c32.fok (by simp only [subs, sub1, free_G]) (Cor.run (addC_good g26 (noC_good _)) (noHx_good _) hm ?_)
  simp +contextual -implicitDefEqProofs (maxSteps := 2000000) only [bg_eq, a32, x26, h', ruB, rh_no, Int.reduceLT, Int.reduceLE, Int.reduceAdd, Int.reduceSub, Int.reduceMul, Int.reduceNeg, Int.reduceToNat, Int.reduceEq, Int.reduceNe, Int.reduceTDiv, Int.reduceTMod, implies_true, putL, appN, appX, Eng.Fi, reduceCtorEq, exists_eq_left', exists_eq_left, if_true, if_false, List.replicate, Nat.reduceAdd, Nat.reduceSub, Nat.reduceMul, Nat.reduceLeDiff, Nat.reduceLT, Nat.reduceEqDiff]
def c32f : List AV → Option AV
  | [.vs vals] => onL dG vals fun l => if l.length ≤ 1099511627776 then some (.int .i64 (chkX l).2) else none
  | _ => none
theorem g32 : Fn P 32 c32f := fun args v h => by
  unfold c32f at h; split at h
  · obtain ⟨l, rfl, h2⟩ := onL_inv dG_inv h
    split at h2
    · rename_i hc; cases h2; exact k32 l  hc
    · cases h2
  · cases h
theorem x32 (l : List Gt) (h : (l.length ≤ 1099511627776) = True) : c32f [.vs (l.map eG)] = some (.int .i64 (chkX l).2) := by
  simp only [c32f, onL_map dG_e, h, if_true]

/-! a copy that is written -/
theorem l23 (l : List Gt) (h0 : l ≠ []) (hl : l.length ≤ 1000) : LOk P 23 [.vs (l.map eG)] [] 0 (.slice 0 3 0 (l.map eG).length) [⟨0, 0, .rows 66 3 (l.map eG)⟩] 1 := by
  cases l with
  | nil => exact absurd rfl h0
  | cons g l =>
    simp only [List.length_cons] at hl
    have m1 : (l.length + 1 ≤ maxLen) = True := by simp only [eq_iff_iff, iff_true]; exact Nat.le_trans hl (by decide)
    have m2 : ((l.length + 1) * 24 ≤ 140737488355328) = True := by simp only [eq_iff_iff, iff_true]; omega
    have m3 : ((g :: l).map eG).all (fun v => decide (v.cells.length = 3)) = true := by simp [List.all_map, AV.cells]
    refine c23.lok (Cor.post (Cor.run (noC_good _) (noHx_good _) hm ?_))
    simp +contextual -implicitDefEqProofs (maxSteps := 2000000) only [bg_eq, a23, List.length_map, m1, m2, m3, FinL, ruB, rh_no, Int.reduceLT, Int.reduceLE, Int.reduceAdd, Int.reduceSub, Int.reduceMul, Int.reduceNeg, Int.reduceToNat, Int.reduceEq, Int.reduceNe, Int.reduceTDiv, Int.reduceTMod, implies_true, putL, appN, appX, Eng.Fi, reduceCtorEq, exists_eq_left', exists_eq_left, if_true, if_false, List.replicate, Nat.reduceAdd, Nat.reduceSub, Nat.reduceMul, Nat.reduceLeDiff, Nat.reduceLT, Nat.reduceEqDiff]
    exact ⟨⟨[.any, .any, .slice 0 3 0 (l.length + 1), .any, .any, .any], [⟨0, 0, .rows 66 3 (eG g :: l.map eG)⟩], 1⟩, (Wkn.to ⟨0, [(1, 0)], [], 1, [2]⟩ rfl rfl (by simp only [Wk.st, keepT, sub1, subs, Wk.hp, ABlk.sub, free_G]; try rfl)), _, rfl, by simp only [List.length_map, List.length_cons]; rfl, rfl, rfl⟩
def c23l : List AV → Option (List AV)
  | [.vs vals] => match decL dG vals with
    | some l => if l ≠ [] ∧ l.length ≤ 1000 then some (l.map eG) else none
    | none => none
  | _ => none
theorem o23 : LayS P 23 66 3 c23l := fun args xs h => by
  unfold c23l at h; split at h
  · split at h
    · rename_i hd
      have hd := decL_inv dG eG dG_inv hd
      subst hd
      split at h
      · rename_i hc
        cases h
        exact ⟨⟨_, l23 _ hc.1 hc.2⟩, by simp only [subs, sub1, free_G], free_G _ _⟩
      · cases h
    · cases h
  · cases h
theorem y23 (l : List Gt) (H : List HEnt) (nx : Nat) (h : (l ≠ [] ∧ l.length ≤ 1000) = True) : layHs 66 3 c23l [.vs (l.map eG)] H nx = some (.slice nx 3 0 l.length, ⟨nx, nx, .rows 66 3 (l.map eG)⟩ :: H, nx + 1) := by
  have hc : c23l [.vs (l.map eG)] = some (l.map eG) := by
    simp only [c23l, decL_map dG eG dG_e, h, if_true]
  rw [yS_h hc, List.length_map]
/-! the state after all events -/
def allS (r : Rl) (l : List Gt) : St := l.foldl (fun s e => (hearS r s e).1) st0
theorem walk_all {r : Rl} {t : Int} : ∀ {l : List Gt} {s : St}, (∀ e ∈ l, e.at' ≤ t) → walkS r t s l = l.foldl (fun s e => (hearS r s e).1) s
  | [], _, _ => rfl
  | g :: l, s, h => by
    have := h g (by simp)
    rw [walkS, if_neg (by omega), List.foldl_cons]
    exact walk_all fun e he => h e (by simp [he])
theorem Va_le {m : List Gt} {z : Gt} {p : Int} (h : Va p (m ++ [z])) : ∀ e ∈ m ++ [z], e.at' ≤ z.at' := by
  induction m generalizing p with
  | nil => intro e he; simp only [List.nil_append, List.mem_singleton] at he; rw [he]; exact Int.le_refl _
  | cons g m ih =>
    obtain ⟨_, h2, h3⟩ := h
    intro e he
    rcases List.mem_cons.1 he with rfl | he
    · have h4 := ih h3
      cases m with
      | nil => obtain ⟨_, h5, _⟩ := h3; omega
      | cons g2 m => obtain ⟨_, h5, _⟩ := h3; have := h4 g2 (by simp); omega
    · exact ih h3 e he
theorem Va_all {l : List Gt} {p : Int} (h : Va p l) : ∀ e ∈ l, evE e = 0 ∧ p < e.at' := by
  induction l generalizing p with
  | nil => simp
  | cons g l ih =>
    obtain ⟨h1, h2, h3⟩ := h
    intro e he
    rcases List.mem_cons.1 he with rfl | he
    · exact ⟨h1, h2⟩
    · have := ih h3 e he; exact ⟨this.1, by omega⟩
theorem allS_heard {r : Rl} {m : List Gt} {z : Gt} {p : Int} (hV : Va p (m ++ [z])) (hl : (m ++ [z]).length ≤ 1000) : (allS r (m ++ [z])).heard = z.at' := by
  have key : ∀ (l : List Gt) (n : Nat) (s : St), Inv n s → n + l.length ≤ 1000 → (∀ e ∈ l, evE e = 0) → Inv (n + l.length) (l.foldl (fun s e => (hearS r s e).1) s) := by
    intro l
    induction l with
    | nil => intro n s h _ _; exact h
    | cons g l ih =>
      intro n s h hn he
      have hj := h.hear (r := r) (e := g) (by omega) (he g (by simp))
      have := ih (n + 1) _ hj.1 (by simp only [List.length_cons] at hn; omega) fun e h => he e (by simp [h])
      rw [List.foldl_cons, List.length_cons, show n + (l.length + 1) = n + 1 + l.length by omega]
      exact this
  simp only [List.length_append, List.length_cons, List.length_nil] at hl
  have hi := key m 0 st0 (by simp [Inv, st0]) (by omega) fun e he => (Va_all hV e (by simp [he])).1
  have hz := (Va_all hV z (by simp)).1
  simp only [allS, List.foldl_append, List.foldl_cons, List.foldl_nil]
  exact (hi.hear (r := r) (by omega) hz).2.1
/-! all events later -/
theorem shG_ev {d : Int} {e : Gt} (h : evE e = 0) (hd : 0 ≤ d) (hb : e.at' + d ≤ 1000000000000) : evE (shG d e) = 0 := by
  obtain ⟨h1, h2, h3⟩ := evE_zero h
  have hb2 : 0 ≤ e.at' + d := by omega
  simp only [evE, firstE, unl, shG, hb, hb2, h2, h3, and_self, if_true]
theorem each_sh {d : Int} (hd : 0 ≤ d) : ∀ {l : List Gt} {i p q : Int}, (∀ e ∈ l, e.at' + d ≤ 1000000000000) → (l ≠ [] → q = p + d ∨ (q = p ∧ p < 0)) → Va p l → (eachX i q (l.map (shG d))).2 = 0
  | [], _, _, _, _, _, _ => rfl
  | g :: l, i, p, q, hb, hq, hV => by
    obtain ⟨h1, h2, h3⟩ := hV
    have hx : xErr q (shG d g) = 0 := by
      have hlt : q < (shG d g).at' := by
        have := hq (by simp)
        have := (evE_zero h1).1
        simp only [shG]; omega
      simp only [xErr, firstE, shG_ev h1 hd (hb g (by simp)), unl, hlt, if_true]
    rw [List.map_cons, eachX, if_pos hx]
    exact each_sh hd (fun e he => hb e (by simp [he])) (fun _ => .inl rfl) h3
theorem chk_sh {d : Int} {l : List Gt} (hd : 0 ≤ d) (h : (chkX l).2 = 0) (hb : ∀ e ∈ l, e.at' + d ≤ 1000000000000) : (chkX (l.map (shG d))).2 = 0 := by
  have hV := chkX_Va h
  have h40 := (chkX_zero h).1
  rw [chkX, if_pos (by simpa using h40)]
  exact each_sh hd hb (fun _ => .inr ⟨rfl, by decide⟩) hV
theorem fold_sh {d : Int} {r : Rl} (hd : 0 ≤ d) : ∀ {l : List Gt} {s s' : St} {o : Ou}, Lat d s s' → (∀ e ∈ l, 0 ≤ e.at') → ((l.map (shG d)).foldl (stA r) (s', shO d o)).2 = shO d (l.foldl (stA r) (s, o)).2
  | [], _, _, _, _, _ => rfl
  | g :: l, s, s', o, h, he => by
    have h0 := he g (by simp)
    rw [List.map_cons, List.foldl_cons, List.foldl_cons, stA_sh hd h0 h]
    have e1 : stA r (s, o) g = ((hearS r s g).1, (stA r (s, o) g).2) := rfl
    rw [e1]
    exact fold_sh hd (h.hear hd h0) fun e hx => he e (by simp [hx])
theorem alerts_sh {d : Int} {r : Rl} {l : List Gt} (hd : 0 ≤ d) (h : evsE r l = 0) (hb : ∀ e ∈ l, e.at' + d ≤ 1000000000000) : alertsL r (l.map (shG d)) = ((alertsL r l).1.map (shA d), 0) := by
  obtain ⟨h1, h2⟩ := evsE_zero h
  have h' : evsE r (l.map (shG d)) = 0 := by simp only [evsE, firstE, h1, chk_sh hd h2 hb, if_true]
  have hV := Va_all (chkX_Va h2)
  have := fold_sh (d := d) (r := r) hd (l := l) (s := st0) (s' := st0) (o := none) ⟨rfl, rfl, fun x => by simp [st0] at x, .inl ⟨rfl, rfl⟩⟩ fun e he => (evE_zero (hV e he).1).1.1
  simp only [alertsL, h, h', if_true]
  have e0 : shO d none = none := rfl
  rw [e0] at this
  rw [this, shO_l]
/-! bounds of alerts -/
def alB (a : Al) : Prop := (-1 ≤ a.fr ∧ a.fr ≤ 1000000000000) ∧ (-10 ≤ a.to ∧ a.to ≤ 2000000000000)
theorem setO_B {v : Int} {o : Ou} (hv : -10 ≤ v ∧ v ≤ 2000000000000) (h : ∀ a ∈ o.l, alB a) : ∀ a ∈ (setO v o).l, alB a := by
  cases o with
  | none => exact h
  | some p =>
    obtain ⟨m, b⟩ := p
    intro a ha
    simp only [setO, Ou.l, List.mem_append, List.mem_singleton] at ha
    rcases ha with ha | rfl
    · exact h a (by simp [Ou.l, ha])
    · exact ⟨(h b (by simp [Ou.l])).1, hv⟩
theorem appO_B {b : Al} {o : Ou} (hb : alB b) (h : ∀ a ∈ o.l, alB a) : ∀ a ∈ (appO b o).l, alB a := by
  cases o with
  | none => intro a ha; simp only [appO, Ou.l, List.nil_append, List.mem_singleton] at ha; rw [ha]; exact hb
  | some p =>
    obtain ⟨m, c⟩ := p
    intro a ha
    simp only [appO, Ou.l, List.mem_append, List.mem_singleton] at ha
    rcases ha with (ha | rfl) | rfl
    · exact h a (by simp [Ou.l, ha])
    · exact h _ (by simp [Ou.l])
    · exact hb
theorem hear_si {r : Rl} {s : St} {e : Gt} (h : s.num < (hearS r s e).1.num) : (hearS r s e).1.since = e.at' := by
  have h1 : (expS r s e.at').num = s.num := by unfold expS endS; split <;> rfl
  have hh : hearS r s e = finS r (midS r (expS r s e.at') e) e := rfl
  rw [hh] at h ⊢
  have h2 : (midS r (expS r s e.at') e).num = s.num := by
    generalize expS r s e.at' = s1 at *
    unfold midS
    split
    · have key : ∀ a : St, a.num = s.num → (if ¬ a.quiet = -1 ∧ r.hold ≤ e.at' - a.quiet then endS a else a).num = s.num := fun a ha => by
        split
        · exact ha
        · exact ha
      refine key _ ?_
      split
      · exact h1
      · split <;> exact h1
    · exact h1
  generalize midS r (expS r s e.at') e = s2 at *
  unfold finS at h ⊢
  split at h
  · rename_i hc
    rw [if_pos hc]
    split at h
    · simp only at h; omega
    · rename_i hc2; rw [if_neg hc2]
  · simp only at h; omega
theorem fold_B {r : Rl} (hr : 1 ≤ r.tmo ∧ r.tmo ≤ 100000) : ∀ {l : List Gt} {n : Nat} {s : St} {o : Ou}, Inv n s → n + l.length ≤ 1000 → (∀ e ∈ l, evE e = 0) → (∀ a ∈ o.l, alB a) → ∀ a ∈ (l.foldl (stA r) (s, o)).2.l, alB a
  | [], n, s, o, hi, hn, he, h => h
  | g :: l, n, s, o, hi, hn, he, h => by
    have hg := (evE_zero (he g (by simp))).1
    have hj := hi.hear (r := r) (e := g) (by omega) (he g (by simp))
    rw [List.foldl_cons]
    have e1 : stA r (s, o) g = ((hearS r s g).1, (stA r (s, o) g).2) := rfl
    rw [e1]
    refine fold_B hr hj.1 (by simp only [List.length_cons] at hn; omega) (fun e hx => he e (by simp [hx])) ?_
    have hsi := hear_si (r := r) (s := s) (e := g)
    have hh := hi.1
    simp only [stA]
    have o1 : ∀ a ∈ (if s.up = true then setO (min (g.at' - 1) (s.heard + r.tmo)) o else o).l, alB a := by
      split
      · exact setO_B (by omega) h
      · exact h
    generalize (if s.up = true then setO (min (g.at' - 1) (s.heard + r.tmo)) o else o) = q1 at *
    have o2 : ∀ a ∈ (if s.num < (hearS r s g).1.num then appO ⟨(hearS r s g).1.num, (hearS r s g).1.since, 0⟩ q1 else q1).l, alB a := by
      split
      · rename_i hlt
        rw [hsi hlt]
        exact appO_B ⟨by simp only; omega, by simp only; omega⟩ (by assumption)
      · assumption
    generalize (if s.num < (hearS r s g).1.num then appO ⟨(hearS r s g).1.num, (hearS r s g).1.since, 0⟩ q1 else q1) = q2 at *
    split
    · exact setO_B (by omega) (by assumption)
    · assumption
theorem expS_no {r : Rl} {s : St} {t : Int} (h : t - s.heard ≤ r.tmo) : expS r s t = s := by
  rw [expS, if_neg (by omega)]
theorem Ou_len {r : Rl} : ∀ (l : List Gt) (p : St × Ou), ((l.foldl (stA r) p).2.l).length ≤ p.2.l.length + l.length
  | [], p => by simp
  | g :: l, p => by
    rw [List.foldl_cons]
    refine Nat.le_trans (Ou_len l _) ?_
    have hs : ∀ v (o : Ou), (setO v o).l.length = o.l.length := fun v o => by cases o <;> simp [setO, Ou.l]
    have ha : ∀ b (o : Ou), (appO b o).l.length = o.l.length + 1 := fun b o => by cases o <;> simp [appO, Ou.l]
    have : (stA r p g).2.l.length ≤ p.2.l.length + 1 := by
      simp only [stA]
      split <;> (try rw [hs]) <;> split <;> (try rw [ha]) <;> split <;> (try rw [hs]) <;> omega
    simp only [List.length_cons]; omega
end Sh
