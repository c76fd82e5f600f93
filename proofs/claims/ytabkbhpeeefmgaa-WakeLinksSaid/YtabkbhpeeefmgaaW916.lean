import Derived.Test.YtabkbhpeeefmgaaEngS9
import Derived.Test.YtabkbhpeeefmgaaW915
open Go Go.Proofs Eng
set_option maxRecDepth 100000
set_option linter.unusedSimpArgs false
set_option linter.unusedVariables false
def a38 : AC := .seq (.ops false [] [⟨some 2, .p (.mov), [.c (.nilslice)], none⟩, ⟨some 3, .p (.mov), [.c (.int .i64 0)], none⟩]) (.seq (.ops false [] [⟨some 9, .p (.mov), [.t 0], none⟩, ⟨some 10, .p (.lenS), [.t 9], none⟩, ⟨some 11, .call 109, [.t 10], none⟩, ⟨some 4, .p (.mov), [.t 11], none⟩]) (.seq (.ops false [] [⟨some 12, .p (.mov), [.t 0], none⟩, ⟨some 13, .p (.mov), [.t 4], none⟩, ⟨some 14, .p (.iaddrS 1), [.t 13, .c (.int .i64 0)], none⟩, ⟨some 15, .load 1 false, [.t 14], none⟩, ⟨some 16, .call 110, [.t 12, .t 15], none⟩, ⟨some 5, .p (.mov), [.t 16], none⟩]) (.seq (.seq (.ops false [] [⟨some 6, .p (.mov), [.c (.int .i64 1)], none⟩]) (.block 0 (.loop (.seq (.seq (.ops false [] [⟨some 17, .p (.mov), [.t 6], none⟩, ⟨some 18, .p (.mov), [.t 4], none⟩, ⟨some 19, .p (.lenS), [.t 18], none⟩, ⟨some 20, .p (.binI .lss), [.t 17, .t 19], none⟩]) (.cond (.t 20) (.skip) (.exit 0))) (.seq (.block 1 (.ops false [] [⟨some 23, .p (.mov), [.t 5], none⟩, ⟨some 24, .p (.mov), [.t 0], none⟩, ⟨some 25, .p (.mov), [.t 4], none⟩, ⟨some 26, .p (.mov), [.t 6], none⟩, ⟨some 27, .p (.iaddrS 1), [.t 25, .t 26], none⟩, ⟨some 28, .load 1 false, [.t 27], none⟩, ⟨some 29, .call 110, [.t 24, .t 28], none⟩, ⟨some 30, .p (.mm false), [.t 23, .t 29], none⟩, ⟨some 5, .p (.mov), [.t 30], none⟩])) (.ops false [] [⟨some 21, .p (.mov), [.t 6], none⟩, ⟨some 22, .p (.binI .add), [.t 21, .c (.int .i64 1)], none⟩, ⟨some 6, .p (.mov), [.t 22], none⟩])))))) (.seq (.ops false [] [⟨some 7, .p (.mov), [.c (.nilslice)], none⟩]) (.seq (.seq (.ops false [] [⟨some 8, .p (.mov), [.c (.int .i64 0)], none⟩]) (.block 2 (.loop (.seq (.seq (.ops false [] [⟨some 31, .p (.mov), [.t 8], none⟩, ⟨some 32, .p (.mov), [.t 4], none⟩, ⟨some 33, .p (.lenS), [.t 32], none⟩, ⟨some 34, .p (.binI .lss), [.t 31, .t 33], none⟩]) (.cond (.t 34) (.skip) (.exit 2))) (.seq (.block 3 (.seq (.ops false [] [⟨some 37, .p (.mov), [.t 0], none⟩, ⟨some 38, .p (.mov), [.t 4], none⟩, ⟨some 39, .p (.mov), [.t 8], none⟩, ⟨some 40, .p (.iaddrS 1), [.t 38, .t 39], none⟩, ⟨some 41, .load 1 false, [.t 40], none⟩, ⟨some 42, .call 110, [.t 37, .t 41], none⟩, ⟨some 43, .p (.mov), [.t 5], none⟩, ⟨some 44, .p (.binI .eql), [.t 42, .t 43], none⟩]) (.cond (.t 44) (.ops false [] [⟨some 45, .p (.mov), [.t 7], none⟩, ⟨some 46, .p (.mov), [.t 4], none⟩, ⟨some 47, .p (.mov), [.t 8], none⟩, ⟨some 48, .p (.iaddrS 1), [.t 46, .t 47], none⟩, ⟨some 49, .load 1 false, [.t 48], none⟩, ⟨some 50, .fbs 1, [.t 49], none⟩, ⟨some 51, .app 38 1 24, [.t 45, .t 50], none⟩, ⟨some 7, .p (.mov), [.t 51], none⟩]) (.skip)))) (.ops false [] [⟨some 35, .p (.mov), [.t 8], none⟩, ⟨some 36, .p (.binI .add), [.t 35, .c (.int .i64 1)], none⟩, ⟨some 8, .p (.mov), [.t 36], none⟩])))))) (.seq (.ops false [] [⟨some 52, .p (.mov), [.t 7], none⟩, ⟨some 53, .p (.mov), [.t 5], none⟩, ⟨some 2, .p (.mov), [.t 52], none⟩, ⟨some 3, .p (.mov), [.t 53], none⟩]) (.ret)))))))
theorem c38 : FnC Try.prog 38 54 a38 [.tmp 2, .tmp 3] := ⟨Try.call38, _, _, Try.func38, rfl, by kernel_rfl, by kernel_rfl, rfl⟩
namespace Wa
def S_r1 (m A : List L) (c : Int) (k : Nat) : AState := ⟨[.vs (m.map eL), .any, .any, .any, .vs (A.map eL), I c, I k, .any, .any, .any, .any, .any, .any, .any, .any, .any, .any, .any, .any, .any, .any, .any, .any, .any, .any, .any, .any, .any, .any, .any, .any, .any, .any, .any, .any, .any, .any, .any, .any, .any, .any, .any, .any, .any, .any, .any, .any, .any, .any, .any, .any, .any, .any, .any], [], 0⟩
def S_r2 (m A : List L) (c : Int) (out : List L) (k : Nat) : AState := ⟨[.vs (m.map eL), .any, .any, .any, .vs (A.map eL), I c, .any, gA 0 1 (out.map eL), I k, .any, .any, .any, .any, .any, .any, .any, .any, .any, .any, .any, .any, .any, .any, .any, .any, .any, .any, .any, .any, .any, .any, .any, .any, .any, .any, .any, .any, .any, .any, .any, .any, .any, .any, .any, .any, .any, .any, .any, .any, .any, .any, .any, .any, .any], gH 0 38 1 (out.map eL), 1⟩
theorem tk_L0 (l : List L) : (l.map eL).take l.length = l.map eL := by rw [List.take_of_length_le]; simp
set_option maxHeartbeats 4000000 in
theorem k_rCheapest (m : List L) (h : (cmV m).2 = 0) : FOk P 38 [.vs (m.map eL)] (.tup [.vs ((chV m).1.map eL), I (chV m).2]) := by
  have hma := cmV_z h
  have hn := hma.n
  have yA := x_Assignments (m.length : Int) (by simp only [eq_iff_iff, iff_true]; omega)
  rw [Int.toNat_natCast] at yA
  have hfil := chV_fil m
  have hmn := fun p l => chV_mn m (p := p) (l := l)
  have hAl : (permG m.length m.length []).length ≤ 46656 := perm_le hn.2
  have hAm : ∀ p ∈ permG m.length m.length [], p.length = m.length ∧ ∀ k ∈ p, 0 ≤ k ∧ k < (m.length : Int) := fun p hp => by
    have := perm_mem (N := m.length) m.length [] (by simp) (by simp) p hp
    exact this
  have hAn := perm_ne m.length
  generalize permG m.length m.length [] = A at *
  have hcb : ∀ p ∈ A, 0 ≤ cst m p ∧ cst m p ≤ 60000000 := fun p hp => by
    have h1 := cst_bd hma p
    have h2 := (hAm p hp).1
    omega
  have yC : ∀ p ∈ A, cf_rCost [.vs (m.map eL), .vs (p.map eI)] = some (I (cst m p)) := fun p hp => x_rCost m p (by simp only [eq_iff_iff, iff_true]; exact ⟨h, hAm p hp⟩)
  have hA0 : 0 < A.length := by
    cases A with
    | nil => exact absurd rfl hAn
    | cons a l => simp
  have g0 : (A.map eL)[0]? = some (eL A[0]) := get_e eL A hA0
  have hAd : A = A[0] :: A.drop 1 := by
    have := List.drop_eq_getElem_cons hA0
    rwa [List.drop_zero] at this
  have hm1 := hmn A[0] (A.drop 1) hAd
  have y0 := yC A[0] (by simp)
  have hb0 := hcb A[0] (by simp)
  clear hmn hAd
  generalize (chV m).2 = c at *
  rw [hfil]
  clear hfil
  refine c38.fok (by simp only [subs, sub1, free_L]) (Cor.run (addC_good g_rCost (addC_good g_Assignments (noC_good _))) (noHx_good _) hm ?_)
  generalize cst m A[0] = b0 at *
  obtain ⟨a0, ha0⟩ : ∃ a0, A[0] = a0 := ⟨_, rfl⟩
  rw [ha0] at g0 y0
  simp +contextual -implicitDefEqProofs (maxSteps := 2000000) only [bg_eq, a38, yA, g0, y0, List.length_map, Int.natCast_zero, ruB, rh_no, Int.reduceLT, Int.reduceLE, Int.reduceAdd, Int.reduceSub, Int.reduceMul, Int.reduceNeg, Int.reduceToNat, Int.reduceEq, Int.reduceNe, Int.reduceTDiv, Int.reduceTMod, implies_true, putL, appN, appX, appC, Eng.Fi, reduceCtorEq, exists_eq_left', exists_eq_left, if_true, if_false, List.replicate, Nat.reduceAdd, Nat.reduceSub, Nat.reduceMul, Nat.reduceLeDiff, Nat.reduceLT, Nat.reduceEqDiff]
  refine Cor.lp (addC_good g_rCost (addC_good g_Assignments (noC_good _))) (noHx_good _) hm (fun q : Nat × Int => S_r1 m A q.2 q.1) (fun q => q.1 ≤ A.length ∧ mnC m q.2 (A.drop q.1) = c ∧ (0 ≤ q.2 ∧ q.2 ≤ 60000000)) (fun q => A.length - q.1) (a := (1, b0)) ⟨hA0, hm1.symm, hb0⟩ (Wkn.keep [0, 4, 5, 6] rfl) ?_
  rintro f ⟨k, b⟩ ⟨hk, hc, hbb⟩ go
  simp only at hk hc hbb go ⊢
  rcases Nat.lt_or_ge k A.length with hlt | hge
  · have e1 : ((k : Int) < (A.length : Int)) = True := eq_true (by omega)
    have e2 : (A.map eL)[k]? = some (eL A[k]) := get_e eL A hlt
    have e3 : IntKind.wrap .i64 ((k : Int) + 1) = ((k + 1 : Nat) : Int) := suc_w (by omega)
    have y1 := yC A[k] (by simp)
    have hb1 := hcb A[k] (by simp)
    rw [List.drop_eq_getElem_cons hlt, mnC] at hc
    generalize cst m A[k] = ck at *
    obtain ⟨p, hp⟩ : ∃ p, A[k] = p := ⟨_, rfl⟩
    rw [hp] at e2 y1
    simp +contextual -implicitDefEqProofs (maxSteps := 2000000) only [S_r1, e1, e2, e3, y1, List.length_map, ruB, rh_no, Int.reduceLT, Int.reduceLE, Int.reduceAdd, Int.reduceSub, Int.reduceMul, Int.reduceNeg, Int.reduceToNat, Int.reduceEq, Int.reduceNe, Int.reduceTDiv, Int.reduceTMod, implies_true, putL, appN, appX, appC, Eng.Fi, reduceCtorEq, exists_eq_left', exists_eq_left, if_true, if_false, List.replicate, Nat.reduceAdd, Nat.reduceSub, Nat.reduceMul, Nat.reduceLeDiff, Nat.reduceLT, Nat.reduceEqDiff]
    exact go _ (k + 1, min b ck) ⟨hlt, hc, by simp only; omega⟩ (by simp only; omega) (Wkn.keep [0, 4, 5, 6] rfl)
  · have e1 : ((k : Int) < (A.length : Int)) = False := eq_false (by omega)
    rw [List.drop_eq_nil_of_le hge, mnC] at hc
    subst hc
    simp +contextual -implicitDefEqProofs (maxSteps := 2000000) only [S_r1, e1, List.length_map, Int.natCast_zero, ruB, rh_no, Int.reduceLT, Int.reduceLE, Int.reduceAdd, Int.reduceSub, Int.reduceMul, Int.reduceNeg, Int.reduceToNat, Int.reduceEq, Int.reduceNe, Int.reduceTDiv, Int.reduceTMod, implies_true, putL, appN, appX, appC, Eng.Fi, reduceCtorEq, exists_eq_left', exists_eq_left, if_true, if_false, List.replicate, Nat.reduceAdd, Nat.reduceSub, Nat.reduceMul, Nat.reduceLeDiff, Nat.reduceLT, Nat.reduceEqDiff]
    refine Cor.lp (addC_good g_rCost (addC_good g_Assignments (noC_good _))) (noHx_good _) hm (fun q : Nat × List L => S_r2 m A b q.2 q.1) (fun q => q.1 ≤ A.length ∧ q.2 = (A.take q.1).filter (fun p => decide (cst m p = b))) (fun q => A.length - q.1) (a := (0, [])) ⟨Nat.zero_le _, by simp⟩ (Wkn.to ⟨0, [], [], 1, [0, 4, 5, 7, 8]⟩ rfl rfl (by simp [Wk.st, keepT, memN, Wk.fate, Wk.fate0, assoc, getE, Wk.hp, ABlk.sub, sub1, subs, S_r2, gA, gH, free_L])) ?_
    rintro f2 ⟨j, out⟩ ⟨hj, ho⟩ go2
    simp only at hj ho go2 ⊢
    have hfo := fun φ => free_L φ out
    have hol : out.length ≤ 46656 := by
      have h1 : out.length ≤ (A.take j).length := by rw [ho]; exact List.length_filter_le _ _
      have h2 : (A.take j).length ≤ A.length := by rw [List.length_take]; omega
      omega
    rcases Nat.lt_or_ge j A.length with hlt2 | hge2
    · have u1 : ((j : Int) < (A.length : Int)) = True := eq_true (by omega)
      have u2 : (A.map eL)[j]? = some (eL A[j]) := get_e eL A hlt2
      have u3 : IntKind.wrap .i64 ((j : Int) + 1) = ((j + 1 : Nat) : Int) := suc_w (by omega)
      have y1 := yC A[j] (by simp)
      have hts : (A.take (j + 1)).filter (fun p => decide (cst m p = b)) = out ++ (if cst m A[j] = b then [A[j]] else []) := by
        rw [List.take_succ_eq_append_getElem hlt2, List.filter_append, ← ho]
        congr 1
        split
        · rename_i q; simp [q]
        · rename_i q; simp [q]
      obtain ⟨p, hp⟩ : ∃ p, A[j] = p := ⟨_, rfl⟩
      rw [hp] at u2 y1 hts
      generalize cst m p = cj at *
      by_cases hcj : cj = b
      · have hcj' := eq_true hcj
        rw [if_pos hcj] at hts
        have m1 : (out.length + 1 ≤ maxLen) = True := mx (by omega)
        have m2 : ((out.length + 1) * 24 ≤ 140737488355328) = True := by simp only [eq_iff_iff, iff_true]; omega
        cases out with
        | nil =>
          simp only [List.map_cons, List.map_nil, subs, List.cons.injEq] at hfo
          simp only [List.length_nil, List.length_cons, Nat.zero_add] at m1 m2
          simp +contextual -implicitDefEqProofs (maxSteps := 2000000) only [S_r2, gA, gH, u1, u2, u3, y1, hcj', rs_nil, rs_t, rs_f, ag_nils, ag_sl, ag_vs, ag_str, ag_ptr, ag_nilp, ag_vp, ag_fun, m1, m2, List.length_map, List.map_cons, List.map_nil, ruB, rh_no, Int.reduceLT, Int.reduceLE, Int.reduceAdd, Int.reduceSub, Int.reduceMul, Int.reduceNeg, Int.reduceToNat, Int.reduceEq, Int.reduceNe, Int.reduceTDiv, Int.reduceTMod, implies_true, putL, appN, appX, appC, Eng.Fi, reduceCtorEq, exists_eq_left', exists_eq_left, if_true, if_false, List.replicate, Nat.reduceAdd, Nat.reduceSub, Nat.reduceMul, Nat.reduceLeDiff, Nat.reduceLT, Nat.reduceEqDiff]
          exact go2 _ (j + 1, [] ++ [p]) ⟨hlt2, hts.symm⟩ (by simp only; omega) (Wkn.to ⟨0, [(1, 0)], [], 1, [0, 4, 5, 7, 8]⟩ rfl rfl (by simp [Wk.st, keepT, memN, Wk.fate, Wk.fate0, assoc, getE, Wk.hp, ABlk.sub, sub1, subs, S_r2, gA, gH, hfo, free_L, free_I, subs_append]))
          
        | cons z0 zr =>
          simp only [List.map_cons, List.map_nil, subs, List.cons.injEq] at hfo
          simp only [List.length_nil, List.length_cons, Nat.zero_add] at m1 m2
          simp +contextual -implicitDefEqProofs (maxSteps := 2000000) only [S_r2, gA, gH, u1, u2, u3, y1, hcj', rs_nil, rs_t, rs_f, ag_nils, ag_sl, ag_vs, ag_str, ag_ptr, ag_nilp, ag_vp, ag_fun, m1, m2, List.length_map, List.map_cons, List.map_nil, ruB, rh_no, Int.reduceLT, Int.reduceLE, Int.reduceAdd, Int.reduceSub, Int.reduceMul, Int.reduceNeg, Int.reduceToNat, Int.reduceEq, Int.reduceNe, Int.reduceTDiv, Int.reduceTMod, implies_true, putL, appN, appX, appC, Eng.Fi, reduceCtorEq, exists_eq_left', exists_eq_left, if_true, if_false, List.replicate, Nat.reduceAdd, Nat.reduceSub, Nat.reduceMul, Nat.reduceLeDiff, Nat.reduceLT, Nat.reduceEqDiff]
          exact go2 _ (j + 1, (z0 :: zr) ++ [p]) ⟨hlt2, hts.symm⟩ (by simp only; omega) (Wkn.to ⟨0, [(1, 0)], [], 1, [0, 4, 5, 7, 8]⟩ rfl rfl (by simp [Wk.st, keepT, memN, Wk.fate, Wk.fate0, assoc, getE, Wk.hp, ABlk.sub, sub1, subs, S_r2, gA, gH, hfo, free_L, free_I, subs_append]))
          
      · have hcj' := eq_false hcj
        rw [if_neg hcj, List.append_nil] at hts
        simp +contextual -implicitDefEqProofs (maxSteps := 2000000) only [S_r2, u1, u2, u3, y1, hcj', List.length_map, ruB, rh_no, Int.reduceLT, Int.reduceLE, Int.reduceAdd, Int.reduceSub, Int.reduceMul, Int.reduceNeg, Int.reduceToNat, Int.reduceEq, Int.reduceNe, Int.reduceTDiv, Int.reduceTMod, implies_true, putL, appN, appX, appC, Eng.Fi, reduceCtorEq, exists_eq_left', exists_eq_left, if_true, if_false, List.replicate, Nat.reduceAdd, Nat.reduceSub, Nat.reduceMul, Nat.reduceLeDiff, Nat.reduceLT, Nat.reduceEqDiff]
        exact go2 _ (j + 1, out) ⟨hlt2, hts.symm⟩ (by simp only; omega) (Wkn.keep [0, 4, 5, 7, 8] rfl)
    · have u1 : ((j : Int) < (A.length : Int)) = False := eq_false (by omega)
      rw [List.take_of_length_le hge2] at ho
      rw [← ho]
      have t2 := tk_L0
      cases out with
      | nil =>
        simp only [List.map_cons, List.map_nil, subs, List.cons.injEq] at hfo
        simp +contextual -implicitDefEqProofs (maxSteps := 2000000) only [S_r2, gA, gH, u1, List.length_map, List.map_cons, List.map_nil, t2, Nat.le_refl, hfo, free_L, free_I, ruB, rh_no, Int.reduceLT, Int.reduceLE, Int.reduceAdd, Int.reduceSub, Int.reduceMul, Int.reduceNeg, Int.reduceToNat, Int.reduceEq, Int.reduceNe, Int.reduceTDiv, Int.reduceTMod, implies_true, putL, appN, appX, appC, Eng.Fi, reduceCtorEq, exists_eq_left', exists_eq_left, if_true, if_false, List.replicate, Nat.reduceAdd, Nat.reduceSub, Nat.reduceMul, Nat.reduceLeDiff, Nat.reduceLT, Nat.reduceEqDiff]
        
      | cons z0 zr =>
        simp only [List.map_cons, List.map_nil, subs, List.cons.injEq] at hfo
        simp +contextual -implicitDefEqProofs (maxSteps := 2000000) only [S_r2, gA, gH, u1, List.length_map, List.map_cons, List.map_nil, t2, Nat.le_refl, hfo, free_L, free_I, ruB, rh_no, Int.reduceLT, Int.reduceLE, Int.reduceAdd, Int.reduceSub, Int.reduceMul, Int.reduceNeg, Int.reduceToNat, Int.reduceEq, Int.reduceNe, Int.reduceTDiv, Int.reduceTMod, implies_true, putL, appN, appX, appC, Eng.Fi, reduceCtorEq, exists_eq_left', exists_eq_left, if_true, if_false, List.replicate, Nat.reduceAdd, Nat.reduceSub, Nat.reduceMul, Nat.reduceLeDiff, Nat.reduceLT, Nat.reduceEqDiff]
        
def cf_rCheapest : List AV → Option AV
  | [.vs m_v] => onL dL m_v fun m => if (cmV m).2 = 0 then some (.tup [.vs ((chV m).1.map eL), I (chV m).2]) else none
  | _ => none
theorem g_rCheapest : Fn P 38 cf_rCheapest := fun args v hh => by
  unfold cf_rCheapest at hh; split at hh
  · obtain ⟨m, rfl, hh1⟩ := onL_inv dL_inv hh
    split at hh1
    · rename_i hc; have hk := Option.some.inj hh1; subst hk; exact k_rCheapest _ hc
    · cases hh1
  · cases hh
theorem x_rCheapest (m : List L) (hc : ((cmV m).2 = 0) = True) : cf_rCheapest [.vs (m.map eL)] = some (.tup [.vs ((chV m).1.map eL), I (chV m).2]) := by
  simp only [cf_rCheapest, onL_map dL_e]
  exact if_pos (by rw [hc]; trivial)
end Wa
open Go Go.Proofs Eng
set_option maxRecDepth 100000
set_option linter.unusedSimpArgs false
set_option linter.unusedVariables false
namespace Wa
end Wa
