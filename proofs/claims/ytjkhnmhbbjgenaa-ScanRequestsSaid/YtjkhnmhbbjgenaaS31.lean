import Derived.Test.YtjkhnmhbbjgenaaEngS9
import Derived.Test.YtjkhnmhbbjgenaaS30
open Go Go.Proofs Eng
set_option maxRecDepth 100000
set_option linter.unusedSimpArgs false
set_option linter.unusedVariables false
def a30 : AC := .seq (.ops false [] [⟨some 2, .box 42 7 1 true, [.t 0], none⟩, ⟨some 4, .p (.mov), [.c (.nilslice)], none⟩]) (.seq (.ops false [] [⟨some 5, .p (.mov), [.c (.nilslice)], none⟩]) (.seq (.ops false [] [⟨some 9, .p (.faddr 0), [.t 2], none⟩, ⟨some 10, .load 2 true, [.t 9], none⟩, ⟨some 6, .alloc 37 2 [.agg [.int .i64 0, .int .i64 0]], [], none⟩, ⟨none, .store 2 true, [.t 6, .t 10], none⟩, ⟨some 7, .p (.mov), [.c (.int .i64 0)], none⟩]) (.seq (.seq (.ops false [] [⟨some 8, .p (.mov), [.c (.int .i64 0)], none⟩]) (.block 0 (.loop (.seq (.seq (.ops false [] [⟨some 11, .p (.mov), [.t 8], none⟩, ⟨some 12, .p (.mov), [.t 1], none⟩, ⟨some 13, .p (.lenS), [.t 12], none⟩, ⟨some 14, .p (.binI .lss), [.t 11, .t 13], none⟩]) (.cond (.t 14) (.skip) (.exit 0))) (.seq (.block 1 (.seq (.ops true [] [⟨some 17, .p (.mov), [.t 7], none⟩, ⟨some 18, .load 7 true, [.t 2], none⟩, ⟨some 19, .load 2 true, [.t 6], none⟩, ⟨some 20, .p (.mov), [.t 1], none⟩, ⟨some 21, .p (.mov), [.t 8], none⟩, ⟨some 22, .p (.iaddrS 3), [.t 20, .t 21], none⟩, ⟨some 23, .p (.faddr 0), [.t 22], none⟩, ⟨some 24, .load 2 true, [.t 23], none⟩, ⟨some 25, .call 70, [.t 18, .t 19, .t 24], none⟩, ⟨some 26, .p (.binI .add), [.t 17, .t 25], none⟩, ⟨some 7, .p (.mov), [.t 26], none⟩]) (.seq (.ops true [] [⟨some 27, .p (.mov), [.t 5], none⟩, ⟨some 28, .p (.mov), [.t 1], none⟩, ⟨some 29, .p (.mov), [.t 8], none⟩, ⟨some 30, .p (.iaddrS 3), [.t 28, .t 29], none⟩, ⟨some 31, .p (.faddr 0), [.t 30], none⟩, ⟨some 32, .load 2 true, [.t 31], none⟩, ⟨some 33, .p (.mov), [.t 7], none⟩, ⟨some 34, .p (.mov), [.t 7], none⟩, ⟨some 35, .p (.mov), [.t 1], none⟩, ⟨some 36, .p (.mov), [.t 8], none⟩, ⟨some 37, .p (.iaddrS 3), [.t 35, .t 36], none⟩, ⟨some 38, .p (.faddr 2), [.t 37], none⟩, ⟨some 39, .load 1 false, [.t 38], none⟩, ⟨some 40, .p (.binI .add), [.t 34, .t 39], none⟩, ⟨some 41, .p (.build [.int .i64 0, .int .i64 0] [(0, 1), (1, 1)]), [.t 33, .t 40], none⟩, ⟨some 42, .p (.build [.int .i64 0, .int .i64 0, .int .i64 0, .int .i64 0] [(0, 2), (2, 2)]), [.t 32, .t 41], none⟩, ⟨some 43, .fbs 4, [.t 42], none⟩, ⟨some 44, .app 81 4 32, [.t 27, .t 43], none⟩, ⟨some 5, .p (.mov), [.t 44], none⟩]) (.ops true [(10, 12)] [⟨some 45, .p (.mov), [.t 1], none⟩, ⟨some 46, .p (.mov), [.t 8], none⟩, ⟨some 47, .p (.iaddrS 3), [.t 45, .t 46], none⟩, ⟨some 48, .p (.faddr 0), [.t 47], none⟩, ⟨some 49, .load 2 true, [.t 48], none⟩, ⟨some 50, .p (.mov), [.t 7], none⟩, ⟨some 51, .p (.mov), [.t 1], none⟩, ⟨some 52, .p (.mov), [.t 8], none⟩, ⟨some 53, .p (.iaddrS 3), [.t 51, .t 52], none⟩, ⟨some 54, .p (.faddr 2), [.t 53], none⟩, ⟨some 55, .load 1 false, [.t 54], none⟩, ⟨some 56, .p (.binI .add), [.t 50, .t 55], none⟩, ⟨none, .store 2 true, [.t 6, .t 49], none⟩, ⟨some 7, .p (.mov), [.t 56], none⟩])))) (.ops false [] [⟨some 15, .p (.mov), [.t 8], none⟩, ⟨some 16, .p (.binI .add), [.t 15, .c (.int .i64 1)], none⟩, ⟨some 8, .p (.mov), [.t 16], none⟩])))))) (.seq (.ops false [] [⟨some 57, .p (.mov), [.t 5], none⟩, ⟨some 4, .p (.mov), [.t 57], none⟩]) (.ret)))))
theorem c30 : FnC Try.prog 30 58 a30 [.tmp 4] := ⟨Try.call30, _, _, Try.func30, rfl, by kernel_rfl, by kernel_rfl, rfl⟩
def a33 : AC := .seq (.ops false [] [⟨some 2, .p (.mov), [.c (.int .i64 0)], none⟩]) (.seq (.ops false [] [⟨some 3, .p (.mov), [.t 0], none⟩, ⟨some 4, .p (.mov), [.t 0], none⟩, ⟨some 5, .p (.lenS), [.t 4], none⟩, ⟨some 6, .p (.binI .sub), [.t 5, .c (.int .i64 1)], none⟩, ⟨some 7, .p (.iaddrS 4), [.t 3, .t 6], none⟩, ⟨some 8, .p (.faddr 2), [.t 7], none⟩, ⟨some 9, .p (.faddr 1), [.t 8], none⟩, ⟨some 10, .load 1 false, [.t 9], none⟩, ⟨some 2, .p (.mov), [.t 10], none⟩]) (.ret))
theorem c33 : FnC Try.prog 33 11 a33 [.tmp 2] := ⟨Try.call33, _, _, Try.func33, rfl, by kernel_rfl, by kernel_rfl, rfl⟩
namespace Sc
def vA : List Vi → AV
  | [] => .nilslice
  | _ :: r => .slice 2 4 0 (r.length + 1)
def vH : List Vi → List HEnt
  | [] => []
  | x :: r => [⟨2, 2, .rows 81 4 ((x :: r).map eVi)⟩]
def hdR (h : Hd) : Prop := (axR h.ra h.aa ∧ axR h.re h.ae) ∧ drR h.home
instance (h : Hd) : Decidable (hdR h) := by unfold hdR; infer_instance
def ssR (ss : List St) : Prop := ss.length ≤ 60 ∧ ∀ s ∈ ss, stR s
instance (s : St) : Decidable (stR s) := by unfold stR; infer_instance
instance (ss : List St) : Decidable (ssR ss) := by unfold ssR; infer_instance
def S30v (h : Hd) (ss : List St) (p : Nat × Int × Dr × List Vi) : AState := ⟨[.any, .vs (ss.map eSt), .ptr 0 7 0 0, .any, .any, vA p.2.2.2, .ptr 1 2 0 0, I p.2.1, I p.1, .any, .any, .any, .any, .any, .any, .any, .any, .any, .any, .any, .any, .any, .any, .any, .any, .any, .any, .any, .any, .any, .any, .any, .any, .any, .any, .any, .any, .any, .any, .any, .any, .any, .any, .any, .any, .any, .any, .any, .any, .any, .any, .any, .any, .any, .any, .any, .any, .any], vH p.2.2.2 ++ [⟨1, 1, .rows 37 2 [eDr p.2.2.1]⟩, ⟨0, 0, .rows 42 7 [eHd h]⟩], 3⟩
theorem k_rVisits (h : Hd) (ss : List St) (hc : hdR h ∧ ssR ss) : FOk P 30 [eHd h, .vs (ss.map eSt)] (.vs ((visL h 0 h.home ss).map eVi)) := by
  obtain ⟨⟨⟨hz2, hz3⟩, hz1⟩, h60, hst⟩ := hc
  refine c30.fok (by simp only [free_Hs, subs, sub1, free_Se, free_St]) (Cor.run (addC_good g_rMove (noC_good _)) (noHx_good _) hm ?_)
  simp +contextual -implicitDefEqProofs (maxSteps := 2000000) only [bg_eq, a30, List.length_map, ruB, rh_no, Int.reduceLT, Int.reduceLE, Int.reduceAdd, Int.reduceSub, Int.reduceMul, Int.reduceNeg, Int.reduceToNat, Int.reduceEq, Int.reduceNe, Int.reduceTDiv, Int.reduceTMod, implies_true, putL, appN, appX, appC, Eng.Fi, reduceCtorEq, exists_eq_left', exists_eq_left, if_true, if_false, List.replicate, Nat.reduceAdd, Nat.reduceSub, Nat.reduceMul, Nat.reduceLeDiff, Nat.reduceLT, Nat.reduceEqDiff]
  refine Cor.lp (addC_good g_rMove (noC_good _)) (noHx_good _) hm (S30v h ss) (fun p => ((p.1 ≤ ss.length ∧ p.2.2.2.length = p.1) ∧ 0 ≤ p.2.1 ∧ p.2.1 ≤ p.1 * 1450) ∧ drR p.2.2.1 ∧ visL h 0 h.home ss = p.2.2.2 ++ visL h p.2.1 p.2.2.1 (ss.drop p.1)) (fun p => ss.length - p.1) (a := (0, 0, h.home, [])) ⟨⟨⟨Nat.zero_le _, rfl⟩, by simp, by simp⟩, hz1, rfl⟩ (Wkn.to ⟨0, [(0, 0), (1, 1)], [], 3, [1, 2, 5, 6, 7, 8]⟩ rfl rfl (by simp [Wk.st, keepT, memN, Wk.fate, Wk.fate0, assoc, getE, Wk.hp, ABlk.sub, sub1, subs, free_Se, free_St, S30v, vA, vH])) ?_
  rintro f ⟨i, t, d, o⟩ ⟨⟨⟨hi, ho⟩, ht1, ht2⟩, hd, hf⟩ go
  simp only at hi ho ht1 ht2 hd hf
  have hfo := fun φ => free_Vi φ o
  rcases Nat.lt_or_ge i ss.length with hlt | hlt
  · have e1 : decide ((i : Int) < (ss.length : Int)) = true := lt_t hlt
    have e2 : (ss.map eSt)[i]? = some (eSt ss[i]) := get_e eSt ss hlt
    have e3 : IntKind.wrap .i64 ((i : Int) + 1) = ((i + 1 : Nat) : Int) := suc_w (by omega)
    have hs := hst ss[i] (by simp)
    rw [List.drop_eq_getElem_cons hlt, visL] at hf
    generalize ss[i] = s at *
    have hmb : mvB h d (stD s) := ⟨⟨hz2, hz3⟩, hd, hs.1⟩
    have y := x_rMove h d (stD s) (by simp only [hmb])
    have hb := mvT_bd hmb
    generalize mvT h d (stD s) = mt at *
    obtain ⟨_, hs2⟩ := hs
    have w1 : IntKind.wrap .i64 (t + mt) = t + mt := wrap64 (by omega) (by omega)
    have w2 : IntKind.wrap .i64 (t + mt + s.tk) = t + mt + s.tk := wrap64 (by omega) (by omega)
    have y' : cf_rMove [eHd h, eDr d, .agg [I s.az, I s.el]] = some (I mt) := y
    have m1 : (o.length + 1 ≤ maxLen) = True := mx (by omega)
    have m2 : ((o.length + 1) * 32 ≤ 140737488355328) = True := by simp only [eq_iff_iff, iff_true]; omega
    have tp : ((i + 1 : Nat) : Int) * 1450 = (i : Int) * 1450 + 1450 := by omega
    have hol : (o ++ [(⟨s.az, s.el, t + mt, t + mt + s.tk⟩ : Vi)]).length = i + 1 := by simp only [List.length_append, List.length_cons, List.length_nil]; omega
    have hf2 : visL h 0 h.home ss = (o ++ [⟨s.az, s.el, t + mt, t + mt + s.tk⟩]) ++ visL h (t + mt + s.tk) (stD s) (ss.drop (i + 1)) := by rw [hf, List.append_assoc]; rfl
    cases o with
    | nil =>
      simp only [List.length_nil, List.length_cons, Nat.zero_add] at m1 m2
      simp only [List.map_cons, List.map_nil, subs, List.cons.injEq] at hfo
      simp +contextual -implicitDefEqProofs (maxSteps := 2000000) only [S30v, vA, vH, e1, e2, e3, y', w1, w2, rs_nil, rs_t, rs_f, ag_nils, ag_sl, ag_vs, ag_str, ag_ptr, ag_nilp, ag_vp, ag_fun, m1, m2, List.map_cons, List.length_map, ruB, rh_no, Int.reduceLT, Int.reduceLE, Int.reduceAdd, Int.reduceSub, Int.reduceMul, Int.reduceNeg, Int.reduceToNat, Int.reduceEq, Int.reduceNe, Int.reduceTDiv, Int.reduceTMod, implies_true, putL, appN, appX, appC, Eng.Fi, reduceCtorEq, exists_eq_left', exists_eq_left, if_true, if_false, List.replicate, Nat.reduceAdd, Nat.reduceSub, Nat.reduceMul, Nat.reduceLeDiff, Nat.reduceLT, Nat.reduceEqDiff]
      refine go _ (i + 1, t + mt + s.tk, stD s, [] ++ [⟨s.az, s.el, t + mt, t + mt + s.tk⟩]) ⟨⟨⟨hlt, hol⟩, by simp only; omega, by simp only; omega⟩, hmb.2.2, hf2⟩ (by simp only; omega) (Wkn.to ⟨0, [(3, 2), (1, 1), (0, 0)], [], 3, [1, 2, 5, 6, 7, 8]⟩ rfl rfl ?_)
      simp [Wk.st, keepT, memN, Wk.fate, Wk.fate0, assoc, getE, Wk.hp, ABlk.sub, sub1, subs, free_Se, free_St, S30v, vA, vH, stD, subs_append, hfo]
      
    | cons x0 r0 =>
      simp only [List.length_nil, List.length_cons, Nat.zero_add] at m1 m2
      simp only [List.map_cons, List.map_nil, subs, List.cons.injEq] at hfo
      simp +contextual -implicitDefEqProofs (maxSteps := 2000000) only [S30v, vA, vH, e1, e2, e3, y', w1, w2, rs_nil, rs_t, rs_f, ag_nils, ag_sl, ag_vs, ag_str, ag_ptr, ag_nilp, ag_vp, ag_fun, m1, m2, List.map_cons, List.length_map, ruB, rh_no, Int.reduceLT, Int.reduceLE, Int.reduceAdd, Int.reduceSub, Int.reduceMul, Int.reduceNeg, Int.reduceToNat, Int.reduceEq, Int.reduceNe, Int.reduceTDiv, Int.reduceTMod, implies_true, putL, appN, appX, appC, Eng.Fi, reduceCtorEq, exists_eq_left', exists_eq_left, if_true, if_false, List.replicate, Nat.reduceAdd, Nat.reduceSub, Nat.reduceMul, Nat.reduceLeDiff, Nat.reduceLT, Nat.reduceEqDiff]
      refine go _ (i + 1, t + mt + s.tk, stD s, (x0 :: r0) ++ [⟨s.az, s.el, t + mt, t + mt + s.tk⟩]) ⟨⟨⟨hlt, hol⟩, by simp only; omega, by simp only; omega⟩, hmb.2.2, hf2⟩ (by simp only; omega) (Wkn.to ⟨0, [(3, 2), (1, 1), (0, 0)], [], 3, [1, 2, 5, 6, 7, 8]⟩ rfl rfl ?_)
      simp [Wk.st, keepT, memN, Wk.fate, Wk.fate0, assoc, getE, Wk.hp, ABlk.sub, sub1, subs, free_Se, free_St, S30v, vA, vH, stD, subs_append, hfo]
      
  · have e1 : decide ((i : Int) < (ss.length : Int)) = false := lt_f hlt
    rw [List.drop_eq_nil_of_le hlt, visL, List.append_nil] at hf
    rw [hf]
    cases o with
    | nil =>
      have t2 : ∀ r : List Vi, (r.map eVi).take r.length = r.map eVi := fun r => by rw [List.take_of_length_le]; simp
      simp only [List.map_cons, List.map_nil, subs, List.cons.injEq] at hfo
      simp +contextual -implicitDefEqProofs (maxSteps := 2000000) only [S30v, vA, vH, e1, List.map_nil, List.map_cons, List.length_map, t2, Nat.le_refl, hfo, ruB, rh_no, Int.reduceLT, Int.reduceLE, Int.reduceAdd, Int.reduceSub, Int.reduceMul, Int.reduceNeg, Int.reduceToNat, Int.reduceEq, Int.reduceNe, Int.reduceTDiv, Int.reduceTMod, implies_true, putL, appN, appX, appC, Eng.Fi, reduceCtorEq, exists_eq_left', exists_eq_left, if_true, if_false, List.replicate, Nat.reduceAdd, Nat.reduceSub, Nat.reduceMul, Nat.reduceLeDiff, Nat.reduceLT, Nat.reduceEqDiff]
      
    | cons x0 r0 =>
      have t2 : ∀ r : List Vi, (r.map eVi).take r.length = r.map eVi := fun r => by rw [List.take_of_length_le]; simp
      simp only [List.map_cons, List.map_nil, subs, List.cons.injEq] at hfo
      simp +contextual -implicitDefEqProofs (maxSteps := 2000000) only [S30v, vA, vH, e1, List.map_nil, List.map_cons, List.length_map, t2, Nat.le_refl, hfo, ruB, rh_no, Int.reduceLT, Int.reduceLE, Int.reduceAdd, Int.reduceSub, Int.reduceMul, Int.reduceNeg, Int.reduceToNat, Int.reduceEq, Int.reduceNe, Int.reduceTDiv, Int.reduceTMod, implies_true, putL, appN, appX, appC, Eng.Fi, reduceCtorEq, exists_eq_left', exists_eq_left, if_true, if_false, List.replicate, Nat.reduceAdd, Nat.reduceSub, Nat.reduceMul, Nat.reduceLeDiff, Nat.reduceLT, Nat.reduceEqDiff]
      
def cf_rVisits : List AV → Option AV
  | [h_v, .vs ss_v] => onH h_v fun h => onL dSt ss_v fun ss => if hdR h ∧ ssR ss then some (.vs ((visL h 0 h.home ss).map eVi)) else none
  | _ => none
theorem g_rVisits : Fn P 30 cf_rVisits := fun args v hh => by
  unfold cf_rVisits at hh; split at hh
  · obtain ⟨h, rfl, hh1⟩ := onH_inv hh
    obtain ⟨ss, rfl, hh2⟩ := onL_inv dSt_inv hh1
    split at hh2
    · rename_i hc; have hk := Option.some.inj hh2; subst hk; exact k_rVisits _ _ hc
    · cases hh2
  · cases hh
theorem x_rVisits (h : Hd) (ss : List St) (hc : (hdR h ∧ ssR ss) = True) : cf_rVisits [eHd h, .vs (ss.map eSt)] = some (.vs ((visL h 0 h.home ss).map eVi)) := by
  simp only [cf_rVisits, onH_e, onL_map dSt_e]
  exact if_pos (by rw [hc]; trivial)
theorem k_rDuration (l : List Vi) (x : Vi) (hl : l.getLast? = some x ∧ l.length ≤ 1000) : FOk P 33 [.vs (l.map eVi)] (I x.to) := by
  obtain ⟨h1, h2⟩ := hl
  have hp : 0 < l.length := by cases l with
    | nil => simp at h1
    | cons a r => simp
  have w : IntKind.wrap .i64 ((l.length : Int) - 1) = ((l.length - 1 : Nat) : Int) := by rw [wrap64 (by omega) (by omega)]; omega
  have e : (l.map eVi)[l.length - 1]? = some (eVi x) := by rw [List.getElem?_map, ← List.getLast?_eq_getElem?, h1]; rfl
  refine c33.fok (by simp only [subs, sub1, free_Vi]) (Cor.run (noC_good _) (noHx_good _) hm ?_)
  simp +contextual -implicitDefEqProofs (maxSteps := 2000000) only [bg_eq, a33, List.length_map, w, e, ruB, rh_no, Int.reduceLT, Int.reduceLE, Int.reduceAdd, Int.reduceSub, Int.reduceMul, Int.reduceNeg, Int.reduceToNat, Int.reduceEq, Int.reduceNe, Int.reduceTDiv, Int.reduceTMod, implies_true, putL, appN, appX, appC, Eng.Fi, reduceCtorEq, exists_eq_left', exists_eq_left, if_true, if_false, List.replicate, Nat.reduceAdd, Nat.reduceSub, Nat.reduceMul, Nat.reduceLeDiff, Nat.reduceLT, Nat.reduceEqDiff]
def cf_rDuration : List AV → Option AV
  | [.vs vals] => onL dVi vals fun l => if l.length ≤ 1000 then (l.getLast?).map fun x => I x.to else none
  | _ => none
theorem g_rDuration : Fn P 33 cf_rDuration := fun args v hh => by
  unfold cf_rDuration at hh; split at hh
  · obtain ⟨l, rfl, h1⟩ := onL_inv dVi_inv hh
    split at h1
    · rename_i hc
      cases hx : l.getLast? with
      | none => rw [hx] at h1; cases h1
      | some x => rw [hx] at h1; cases h1; exact k_rDuration l x ⟨hx, hc⟩
    · cases h1
  · cases hh
theorem x_rDuration (l : List Vi) (x : Vi) (h1 : l.getLast? = some x) (h2 : l.length ≤ 1000) : cf_rDuration [.vs (l.map eVi)] = some (I x.to) := by
  simp only [cf_rDuration, onL_map dVi_e, h1, h2, if_true]; rfl
def fsB (h : Hd) (ss : List St) : Prop := ((h.res.length ≤ 1000 ∧ ∀ s ∈ h.res, seR s) ∧ drR h.home) ∧ ssR ss
instance (h : Hd) (ss : List St) : Decidable (fsB h ss) := by unfold fsB; infer_instance
end Sc
