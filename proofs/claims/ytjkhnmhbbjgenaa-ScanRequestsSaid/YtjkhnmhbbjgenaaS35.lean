import Derived.Test.YtjkhnmhbbjgenaaEngS9
import Derived.Test.YtjkhnmhbbjgenaaS32
open Go Go.Proofs Eng
set_option maxRecDepth 100000
set_option linter.unusedSimpArgs false
set_option linter.unusedVariables false
def a50 : AC := .seq (.ops false [] [⟨some 2, .p (.mov), [.c (.nilslice)], none⟩]) (.seq (.ops false [] [⟨some 3, .bsl 93 3, [], none⟩, ⟨some 4, .p (.mov), [.t 0], none⟩, ⟨some 5, .app 93 3 24, [.t 3, .t 4], none⟩, ⟨some 2, .p (.mov), [.t 5], none⟩]) (.ret))
theorem c50 : FnC Try.prog 50 6 a50 [.tmp 2] := ⟨Try.call50, _, _, Try.func50, rfl, by kernel_rfl, by kernel_rfl, rfl⟩
def a51 : AC := .seq (.ops false [] [⟨some 2, .p (.mov), [.c (.int .i64 0)], none⟩]) (.seq (.seq (.ops false [] [⟨some 5, .p (.mov), [.t 0], none⟩, ⟨some 6, .p (.lenS), [.t 5], none⟩, ⟨some 7, .p (.binI .gtr), [.t 6, .c (.int .i64 10)], none⟩]) (.cond (.t 7) (.seq (.ops false [] [⟨some 2, .p (.mov), [.c (.int .i64 8)], none⟩]) (.ret)) (.skip))) (.seq (.seq (.ops false [] [⟨some 3, .p (.mov), [.c (.int .i64 0)], none⟩]) (.block 0 (.loop (.seq (.seq (.ops false [] [⟨some 8, .p (.mov), [.t 3], none⟩, ⟨some 9, .p (.mov), [.t 0], none⟩, ⟨some 10, .p (.lenS), [.t 9], none⟩, ⟨some 11, .p (.binI .lss), [.t 8, .t 10], none⟩]) (.cond (.t 11) (.skip) (.exit 0))) (.seq (.block 1 (.seq (.ops false [] [⟨some 14, .p (.mov), [.t 0], none⟩, ⟨some 15, .p (.mov), [.t 3], none⟩, ⟨some 16, .p (.iaddrS 3), [.t 14, .t 15], none⟩, ⟨some 17, .load 3 true, [.t 16], none⟩, ⟨some 18, .call 55, [.t 17], none⟩, ⟨some 4, .p (.mov), [.t 18], none⟩]) (.seq (.ops false [] [⟨some 19, .p (.mov), [.t 4], none⟩, ⟨some 20, .p (.binI .neq), [.t 19, .c (.int .i64 0)], none⟩]) (.cond (.t 20) (.seq (.ops false [] [⟨some 21, .p (.mov), [.t 4], none⟩, ⟨some 2, .p (.mov), [.t 21], none⟩]) (.ret)) (.skip))))) (.ops false [] [⟨some 12, .p (.mov), [.t 3], none⟩, ⟨some 13, .p (.binI .add), [.t 12, .c (.int .i64 1)], none⟩, ⟨some 3, .p (.mov), [.t 13], none⟩])))))) (.seq (.ops false [] [⟨some 2, .p (.mov), [.c (.int .i64 0)], none⟩]) (.ret))))
theorem c51 : FnC Try.prog 51 22 a51 [.tmp 2] := ⟨Try.call51, _, _, Try.func51, rfl, by kernel_rfl, by kernel_rfl, rfl⟩
def a55 : AC := .seq (.ops false [] [⟨some 1, .box 93 3 1 true, [.t 0], none⟩, ⟨some 2, .p (.mov), [.c (.int .i64 0)], none⟩]) (.seq (.seq (.ops false [] [⟨some 4, .p (.faddr 0), [.t 1], none⟩, ⟨some 5, .load 2 true, [.t 4], none⟩, ⟨some 6, .call 44, [.t 5], none⟩, ⟨some 3, .p (.mov), [.t 6], none⟩]) (.seq (.ops false [] [⟨some 7, .p (.mov), [.t 3], none⟩, ⟨some 8, .p (.binI .neq), [.t 7, .c (.int .i64 0)], none⟩]) (.cond (.t 8) (.seq (.ops false [] [⟨some 9, .p (.mov), [.t 3], none⟩, ⟨some 2, .p (.mov), [.t 9], none⟩]) (.ret)) (.skip)))) (.seq (.seq (.ops false [] [⟨some 10, .p (.faddr 2), [.t 1], none⟩, ⟨some 11, .load 1 false, [.t 10], none⟩, ⟨some 12, .call 38, [.t 11, .c (.int .i64 0), .c (.int .i64 20)], none⟩, ⟨some 13, .p (.notB), [.t 12], none⟩]) (.cond (.t 13) (.seq (.ops false [] [⟨some 2, .p (.mov), [.c (.int .i64 2)], none⟩]) (.ret)) (.skip))) (.seq (.ops false [] [⟨some 2, .p (.mov), [.c (.int .i64 0)], none⟩]) (.ret))))
theorem c55 : FnC Try.prog 55 14 a55 [.tmp 2] := ⟨Try.call55, _, _, Try.func55, rfl, by kernel_rfl, by kernel_rfl, rfl⟩
def a100 : AC := .seq (.ops false [] [⟨some 4, .p (.mov), [.c (.bool false)], none⟩]) (.seq (.ops false [] [⟨some 5, .p (.mov), [.t 0], none⟩, ⟨some 6, .p (.mov), [.t 1], none⟩, ⟨some 7, .call 126, [.t 5, .t 6], none⟩, ⟨some 8, .p (.binI .geq), [.t 7, .c (.int .i64 0)], none⟩, ⟨some 4, .p (.mov), [.t 8], none⟩]) (.ret))
theorem c100 : FnC Try.prog 100 9 a100 [.tmp 4] := ⟨Try.call100, _, _, Try.func100, rfl, by kernel_rfl, by kernel_rfl, rfl⟩
def a101 : AC := .seq (.ops false [] [⟨some 2, .box 81 4 1 true, [.t 0], none⟩, ⟨some 3, .p (.mov), [.c (.bool false)], none⟩]) (.seq (.ops false [] [⟨some 4, .load 4 true, [.t 2], none⟩, ⟨some 5, .load 3 true, [.t 1], none⟩, ⟨some 6, .call 102, [.t 4, .t 5], none⟩, ⟨some 3, .p (.mov), [.t 6], none⟩]) (.ret))
theorem c101 : FnC Try.prog 101 7 a101 [.tmp 3] := ⟨Try.call101, _, _, Try.func101, rfl, by kernel_rfl, by kernel_rfl, rfl⟩
def a103 : AC := .seq (.ops false [] [⟨some 2, .box 93 3 1 true, [.t 0], none⟩, ⟨some 3, .box 37 2 1 true, [.t 1], none⟩, ⟨some 4, .p (.mov), [.c (.bool false)], none⟩]) (.seq (.ops true [] [⟨some 5, .p (.faddr 0), [.t 2], none⟩, ⟨some 6, .p (.faddr 0), [.t 5], none⟩, ⟨some 7, .load 1 false, [.t 6], none⟩, ⟨some 8, .p (.faddr 0), [.t 3], none⟩, ⟨some 9, .load 1 false, [.t 8], none⟩, ⟨some 10, .call 115, [.t 7, .t 9], none⟩, ⟨some 11, .call 116, [.t 10], none⟩, ⟨some 12, .p (.faddr 2), [.t 2], none⟩, ⟨some 13, .load 1 false, [.t 12], none⟩, ⟨some 14, .p (.binI .leq), [.t 11, .t 13], none⟩, ⟨some 15, .p (.mov), [.t 14], none⟩, ⟨some 16, .p (.faddr 0), [.t 2], some (15, true)⟩, ⟨some 17, .p (.faddr 1), [.t 16], some (15, true)⟩, ⟨some 18, .load 1 false, [.t 17], some (15, true)⟩, ⟨some 19, .p (.faddr 1), [.t 3], some (15, true)⟩, ⟨some 20, .load 1 false, [.t 19], some (15, true)⟩, ⟨some 21, .p (.binI .sub), [.t 18, .t 20], some (15, true)⟩, ⟨some 22, .call 116, [.t 21], some (15, true)⟩, ⟨some 23, .p (.faddr 2), [.t 2], some (15, true)⟩, ⟨some 24, .load 1 false, [.t 23], some (15, true)⟩, ⟨some 25, .p (.binI .leq), [.t 22, .t 24], some (15, true)⟩, ⟨some 26, .p (.pick), [.t 15, .t 25, .c (.bool false)], none⟩, ⟨some 4, .p (.mov), [.t 26], none⟩]) (.ret))
theorem c103 : FnC Try.prog 103 27 a103 [.tmp 4] := ⟨Try.call103, _, _, Try.func103, rfl, by kernel_rfl, by kernel_rfl, rfl⟩
def a126 : AC := .seq (.ops false [] [⟨some 4, .p (.mov), [.c (.int .i64 0)], none⟩]) (.seq (.seq (.ops false [] [⟨some 6, .p (.mov), [.t 0], none⟩, ⟨some 7, .p (.lenS), [.t 6], none⟩, ⟨some 8, .p (.mov), [.c (.int .i64 0)], none⟩]) (.block 0 (.loop (.seq (.ops false [] [⟨some 9, .p (.binI .lss), [.t 8, .t 7], none⟩]) (.seq (.cond (.t 9) (.skip) (.exit 0)) (.seq (.block 1 (.seq (.ops false [] [⟨some 10, .p (.mov), [.t 8], none⟩, ⟨some 5, .p (.mov), [.t 10], none⟩]) (.seq (.ops false [] [⟨some 11, .p (.mov), [.t 1], none⟩, ⟨some 12, .p (.mov), [.t 0], none⟩, ⟨some 13, .p (.mov), [.t 5], none⟩, ⟨some 14, .p (.iaddrS 4), [.t 12, .t 13], none⟩, ⟨some 15, .load 4 true, [.t 14], none⟩, ⟨some 16, .callv, [.t 11, .t 15], none⟩]) (.cond (.t 16) (.seq (.ops false [] [⟨some 17, .p (.mov), [.t 5], none⟩, ⟨some 4, .p (.mov), [.t 17], none⟩]) (.ret)) (.skip))))) (.ops false [] [⟨some 18, .p (.binI .add), [.t 8, .c (.int .i64 1)], none⟩, ⟨some 8, .p (.mov), [.t 18], none⟩]))))))) (.seq (.ops false [] [⟨some 4, .p (.mov), [.c (.int .i64 (-1))], none⟩]) (.ret)))
theorem c126 : FnC Try.prog 126 19 a126 [.tmp 4] := ⟨Try.call126, _, _, Try.func126, rfl, by kernel_rfl, by kernel_rfl, rfl⟩
namespace Sc
theorem k_CopyRequests (l : List Rq) (hl : l.length ≤ 1000) : FOk P 50 [.vs (l.map eRq)] (.vs (l.map eRq)) := by
  have m1 : (l.length ≤ maxLen) = True := mx (by omega)
  have m2 : (l.length * 24 ≤ 140737488355328) = True := by simp only [eq_iff_iff, iff_true]; omega
  have m3 : (l.map eRq).all (fun v => decide (v.cells.length = 3)) = true := by simp [List.all_map, AV.cells]
  refine c50.fok (by simp only [subs, sub1, free_Rq]) (Cor.run (noC_good _) (noHx_good _) hm ?_)
  simp +contextual -implicitDefEqProofs (maxSteps := 2000000) only [bg_eq, a50, List.length_map, m1, m2, m3, ruB, rh_no, Int.reduceLT, Int.reduceLE, Int.reduceAdd, Int.reduceSub, Int.reduceMul, Int.reduceNeg, Int.reduceToNat, Int.reduceEq, Int.reduceNe, Int.reduceTDiv, Int.reduceTMod, implies_true, putL, appN, appX, appC, Eng.Fi, reduceCtorEq, exists_eq_left', exists_eq_left, if_true, if_false, List.replicate, Nat.reduceAdd, Nat.reduceSub, Nat.reduceMul, Nat.reduceLeDiff, Nat.reduceLT, Nat.reduceEqDiff]
  have t1 : (l.map eRq).take l.length = l.map eRq := by rw [List.take_of_length_le]; simp
  simp [free_Rq, t1]
def cf_CopyRequests : List AV → Option AV
  | [.vs l_v] => onL dRq l_v fun l => if l.length ≤ 1000 then some (.vs (l.map eRq)) else none
  | _ => none
theorem g_CopyRequests : Fn P 50 cf_CopyRequests := fun args v hh => by
  unfold cf_CopyRequests at hh; split at hh
  · obtain ⟨l, rfl, hh1⟩ := onL_inv dRq_inv hh
    split at hh1
    · rename_i hc; have hk := Option.some.inj hh1; subst hk; exact k_CopyRequests _ hc
    · cases hh1
  · cases hh
theorem x_CopyRequests (l : List Rq) (hc : (l.length ≤ 1000) = True) : cf_CopyRequests [.vs (l.map eRq)] = some (.vs (l.map eRq)) := by
  simp only [cf_CopyRequests, onL_map dRq_e]
  exact if_pos (by rw [hc]; trivial)
theorem rqE_val (r : Rq) : rqE r = if drE ⟨r.az, r.el⟩ = 0 then unl (0 ≤ r.tol ∧ r.tol ≤ 20) 2 else drE ⟨r.az, r.el⟩ := by
  unfold rqE
  simp only [firstE]
  by_cases h : drE ⟨r.az, r.el⟩ = 0
  · rw [if_pos h, if_pos h]
    by_cases h2 : unl (0 ≤ r.tol ∧ r.tol ≤ 20) 2 = 0
    · rw [if_pos h2, h2]
    · rw [if_neg h2]
  · rw [if_neg h, if_neg h]
theorem k_rRequestErr (r : Rq) : FOk P 55 [eRq r] (I (rqE r)) := by
  have yd := x_rDirectionErr r.az r.el
  rw [rqE_val]
  by_cases h : drE ⟨r.az, r.el⟩ = 0
  · rw [if_pos h]
    by_cases h2 : 0 ≤ r.tol ∧ r.tol ≤ 20
    · rw [unl_t 2 h2]
      refine c55.fok rfl (Cor.run (addC_good g_Within (addC_good g_rDirectionErr (noC_good _))) (noHx_good _) hm ?_)
      simp +contextual -implicitDefEqProofs (maxSteps := 2000000) only [bg_eq, a55, yd, x_Within, h, h2, not_true_eq_false, ruB, rh_no, Int.reduceLT, Int.reduceLE, Int.reduceAdd, Int.reduceSub, Int.reduceMul, Int.reduceNeg, Int.reduceToNat, Int.reduceEq, Int.reduceNe, Int.reduceTDiv, Int.reduceTMod, implies_true, putL, appN, appX, appC, Eng.Fi, reduceCtorEq, exists_eq_left', exists_eq_left, if_true, if_false, List.replicate, Nat.reduceAdd, Nat.reduceSub, Nat.reduceMul, Nat.reduceLeDiff, Nat.reduceLT, Nat.reduceEqDiff]
    · rw [unl_f 2 h2]
      refine c55.fok rfl (Cor.run (addC_good g_Within (addC_good g_rDirectionErr (noC_good _))) (noHx_good _) hm ?_)
      simp +contextual -implicitDefEqProofs (maxSteps := 2000000) only [bg_eq, a55, yd, x_Within, h, h2, not_true_eq_false, not_false_eq_true, ruB, rh_no, Int.reduceLT, Int.reduceLE, Int.reduceAdd, Int.reduceSub, Int.reduceMul, Int.reduceNeg, Int.reduceToNat, Int.reduceEq, Int.reduceNe, Int.reduceTDiv, Int.reduceTMod, implies_true, putL, appN, appX, appC, Eng.Fi, reduceCtorEq, exists_eq_left', exists_eq_left, if_true, if_false, List.replicate, Nat.reduceAdd, Nat.reduceSub, Nat.reduceMul, Nat.reduceLeDiff, Nat.reduceLT, Nat.reduceEqDiff]
  · rw [if_neg h]
    refine c55.fok rfl (Cor.run (addC_good g_Within (addC_good g_rDirectionErr (noC_good _))) (noHx_good _) hm ?_)
    simp +contextual -implicitDefEqProofs (maxSteps := 2000000) only [bg_eq, a55, yd, x_Within, h, not_true_eq_false, not_false_eq_true, ruB, rh_no, Int.reduceLT, Int.reduceLE, Int.reduceAdd, Int.reduceSub, Int.reduceMul, Int.reduceNeg, Int.reduceToNat, Int.reduceEq, Int.reduceNe, Int.reduceTDiv, Int.reduceTMod, implies_true, putL, appN, appX, appC, Eng.Fi, reduceCtorEq, exists_eq_left', exists_eq_left, if_true, if_false, List.replicate, Nat.reduceAdd, Nat.reduceSub, Nat.reduceMul, Nat.reduceLeDiff, Nat.reduceLT, Nat.reduceEqDiff]
def cf_rRequestErr : List AV → Option AV
  | [.agg [.int .i64 r_az, .int .i64 r_el, .int .i64 r_tol]] => some (I (rqE (⟨r_az, r_el, r_tol⟩ : Rq)))
  | _ => none
theorem g_rRequestErr : Fn P 55 cf_rRequestErr := fun args v hh => by
  unfold cf_rRequestErr at hh; split at hh
  · have hk := Option.some.inj hh; subst hk; exact k_rRequestErr ⟨_, _, _⟩
  · cases hh
theorem x_rRequestErr (r : Rq) : cf_rRequestErr [.agg [I r.az, I r.el, I r.tol]] = some (I (rqE r)) := by
  rfl
/-- the first error -/
def rqF : List Rq → Int
  | [] => 0
  | r :: l => if rqE r = 0 then rqF l else rqE r
def rqsE (l : List Rq) : Int := if (l.length : Int) ≤ 10 then rqF l else 8
def S51 (l : List Rq) (n : Nat) : AState := ⟨[.vs (l.map eRq), .any, .any, I n, .any, .any, .any, .any, .any, .any, .any, .any, .any, .any, .any, .any, .any, .any, .any, .any, .any, .any], [], 0⟩
theorem k_rRequestsErr (l : List Rq) (hl : l.length ≤ 1000) : FOk P 51 [.vs (l.map eRq)] (I (rqsE l)) := by
  by_cases h10 : (l.length : Int) ≤ 10
  · have h10' : (10 < (l.length : Int)) = False := by simp only [eq_iff_iff, iff_false]; omega
    rw [rqsE, if_pos h10]
    refine c51.fok (by simp only [subs, sub1, free_Rq]) (Cor.run (addC_good g_rRequestErr (noC_good _)) (noHx_good _) hm ?_)
    simp +contextual -implicitDefEqProofs (maxSteps := 2000000) only [bg_eq, a51, List.length_map, h10', ruB, rh_no, Int.reduceLT, Int.reduceLE, Int.reduceAdd, Int.reduceSub, Int.reduceMul, Int.reduceNeg, Int.reduceToNat, Int.reduceEq, Int.reduceNe, Int.reduceTDiv, Int.reduceTMod, implies_true, putL, appN, appX, appC, Eng.Fi, reduceCtorEq, exists_eq_left', exists_eq_left, if_true, if_false, List.replicate, Nat.reduceAdd, Nat.reduceSub, Nat.reduceMul, Nat.reduceLeDiff, Nat.reduceLT, Nat.reduceEqDiff]
    refine Cor.lp (addC_good g_rRequestErr (noC_good _)) (noHx_good _) hm (S51 l) (fun n => n ≤ l.length ∧ rqF l = rqF (l.drop n)) (fun n => l.length - n) (a := 0) ⟨Nat.zero_le _, rfl⟩ (Wkn.keep [0, 3] rfl) ?_
    intro f n ⟨hn, hf⟩ go
    rcases Nat.lt_or_ge n l.length with h | h
    · have e1 : decide ((n : Int) < (l.length : Int)) = true := lt_t h
      have e2 : (l.map eRq)[n]? = some (eRq l[n]) := get_e eRq l h
      have e3 : IntKind.wrap .i64 ((n : Int) + 1) = ((n + 1 : Nat) : Int) := suc_w (by omega)
      rw [List.drop_eq_getElem_cons h, rqF] at hf
      generalize l[n] = r at *
      have y := x_rRequestErr r
      by_cases hz : rqE r = 0
      · rw [if_pos hz] at hf
        simp +contextual -implicitDefEqProofs (maxSteps := 2000000) only [S51, e1, e2, e3, y, hz, List.length_map, not_true_eq_false, ruB, rh_no, Int.reduceLT, Int.reduceLE, Int.reduceAdd, Int.reduceSub, Int.reduceMul, Int.reduceNeg, Int.reduceToNat, Int.reduceEq, Int.reduceNe, Int.reduceTDiv, Int.reduceTMod, implies_true, putL, appN, appX, appC, Eng.Fi, reduceCtorEq, exists_eq_left', exists_eq_left, if_true, if_false, List.replicate, Nat.reduceAdd, Nat.reduceSub, Nat.reduceMul, Nat.reduceLeDiff, Nat.reduceLT, Nat.reduceEqDiff]
        exact go _ (n + 1) ⟨h, hf⟩ (by omega) (Wkn.keep [0, 3] rfl)
      · rw [if_neg hz] at hf
        rw [hf]
        simp +contextual -implicitDefEqProofs (maxSteps := 2000000) only [S51, e1, e2, e3, y, hz, List.length_map, not_false_eq_true, ruB, rh_no, Int.reduceLT, Int.reduceLE, Int.reduceAdd, Int.reduceSub, Int.reduceMul, Int.reduceNeg, Int.reduceToNat, Int.reduceEq, Int.reduceNe, Int.reduceTDiv, Int.reduceTMod, implies_true, putL, appN, appX, appC, Eng.Fi, reduceCtorEq, exists_eq_left', exists_eq_left, if_true, if_false, List.replicate, Nat.reduceAdd, Nat.reduceSub, Nat.reduceMul, Nat.reduceLeDiff, Nat.reduceLT, Nat.reduceEqDiff]
    · have e1 : decide ((n : Int) < (l.length : Int)) = false := lt_f h
      rw [List.drop_eq_nil_of_le h, rqF] at hf
      rw [hf]
      simp +contextual -implicitDefEqProofs (maxSteps := 2000000) only [S51, e1, List.length_map, ruB, rh_no, Int.reduceLT, Int.reduceLE, Int.reduceAdd, Int.reduceSub, Int.reduceMul, Int.reduceNeg, Int.reduceToNat, Int.reduceEq, Int.reduceNe, Int.reduceTDiv, Int.reduceTMod, implies_true, putL, appN, appX, appC, Eng.Fi, reduceCtorEq, exists_eq_left', exists_eq_left, if_true, if_false, List.replicate, Nat.reduceAdd, Nat.reduceSub, Nat.reduceMul, Nat.reduceLeDiff, Nat.reduceLT, Nat.reduceEqDiff]
  · have h10' : (10 < (l.length : Int)) = True := by simp only [eq_iff_iff, iff_true]; omega
    rw [rqsE, if_neg h10]
    refine c51.fok (by simp only [subs, sub1, free_Rq]) (Cor.run (addC_good g_rRequestErr (noC_good _)) (noHx_good _) hm ?_)
    simp +contextual -implicitDefEqProofs (maxSteps := 2000000) only [bg_eq, a51, List.length_map, h10', ruB, rh_no, Int.reduceLT, Int.reduceLE, Int.reduceAdd, Int.reduceSub, Int.reduceMul, Int.reduceNeg, Int.reduceToNat, Int.reduceEq, Int.reduceNe, Int.reduceTDiv, Int.reduceTMod, implies_true, putL, appN, appX, appC, Eng.Fi, reduceCtorEq, exists_eq_left', exists_eq_left, if_true, if_false, List.replicate, Nat.reduceAdd, Nat.reduceSub, Nat.reduceMul, Nat.reduceLeDiff, Nat.reduceLT, Nat.reduceEqDiff]
def cf_rRequestsErr : List AV → Option AV
  | [.vs l_v] => onL dRq l_v fun l => if l.length ≤ 1000 then some (I (rqsE l)) else none
  | _ => none
theorem g_rRequestsErr : Fn P 51 cf_rRequestsErr := fun args v hh => by
  unfold cf_rRequestsErr at hh; split at hh
  · obtain ⟨l, rfl, hh1⟩ := onL_inv dRq_inv hh
    split at hh1
    · rename_i hc; have hk := Option.some.inj hh1; subst hk; exact k_rRequestsErr _ hc
    · cases hh1
  · cases hh
theorem x_rRequestsErr (l : List Rq) (hc : (l.length ≤ 1000) = True) : cf_rRequestsErr [.vs (l.map eRq)] = some (I (rqsE l)) := by
  simp only [cf_rRequestsErr, onL_map dRq_e]
  exact if_pos (by rw [hc]; trivial)
/-- may it be met there? -/
def meB (v : Vi) (r : Rq) : Prop := drR ⟨v.az, v.el⟩ ∧ drR ⟨r.az, r.el⟩
instance (v : Vi) (r : Rq) : Decidable (meB v r) := by unfold meB; infer_instance
theorem meP_two {v : Vi} {r : Rq} : meP v r ↔ (turnN v.az r.az ≤ r.tol ∧ tiltN v.el r.el ≤ r.tol) := by unfold meP; omega
def rmP (r : Rq) (d : Dr) : Prop := turnN r.az d.az ≤ r.tol ∧ tiltN d.el r.el ≤ r.tol
instance (r : Rq) (d : Dr) : Decidable (rmP r d) := by unfold rmP; infer_instance
theorem turnN_sym' (a b : Int) : turnN a b = turnN b a := by unfold turnN upw; split <;> split <;> omega
theorem meP_rm (v : Vi) (r : Rq) : meP v r ↔ rmP r ⟨v.az, v.el⟩ := by rw [meP_two, rmP, turnN_sym' r.az]
theorem k_rMeets (r : Rq) (d : Dr) (hc : drR ⟨r.az, r.el⟩ ∧ drR d) : FOk P 103 [eRq r, eDr d] (.bool (decide (rmP r d))) := by
  obtain ⟨⟨h1, h2⟩, h3, h4⟩ := hc
  have y1 := x_rAround r.az d.az (by simp only [eq_iff_iff, iff_true]; exact ⟨h1, h3⟩)
  have s1 := arI_size (a := r.az) (b := d.az) h1 h3
  have s2 := tilt_size d.el r.el
  have h2' := h2; have h4' := h4
  unfold elR at h2' h4'
  have u := upw_bd r.az d.az
  have y2 := x_Size (arI r.az d.az) (by simp only [eq_iff_iff, iff_true]; unfold arI; split <;> omega)
  have y3 := x_Size (r.el - d.el) (by simp only [eq_iff_iff, iff_true]; simp only at h2'; omega)
  rw [s1] at y2
  rw [s2] at y3
  have w : IntKind.wrap .i64 (r.el - d.el) = r.el - d.el := by simp only at h2'; exact wrap64 (by omega) (by omega)
  refine c103.fok rfl (Cor.run (addC_good g_Size (addC_good g_rAround (noC_good _))) (noHx_good _) hm ?_)
  simp +contextual -implicitDefEqProofs (maxSteps := 2000000) only [bg_eq, a103, y1, y2, y3, w, rmP, ruB, rh_no, Int.reduceLT, Int.reduceLE, Int.reduceAdd, Int.reduceSub, Int.reduceMul, Int.reduceNeg, Int.reduceToNat, Int.reduceEq, Int.reduceNe, Int.reduceTDiv, Int.reduceTMod, implies_true, putL, appN, appX, appC, Eng.Fi, reduceCtorEq, exists_eq_left', exists_eq_left, if_true, if_false, List.replicate, Nat.reduceAdd, Nat.reduceSub, Nat.reduceMul, Nat.reduceLeDiff, Nat.reduceLT, Nat.reduceEqDiff]
def cf_rMeets : List AV → Option AV
  | [.agg [.int .i64 r_az, .int .i64 r_el, .int .i64 r_tol], .agg [.int .i64 d_az, .int .i64 d_el]] => if drR ⟨(⟨r_az, r_el, r_tol⟩ : Rq).az, (⟨r_az, r_el, r_tol⟩ : Rq).el⟩ ∧ drR (⟨d_az, d_el⟩ : Dr) then some (.bool (decide (rmP (⟨r_az, r_el, r_tol⟩ : Rq) (⟨d_az, d_el⟩ : Dr)))) else none
  | _ => none
theorem g_rMeets : Fn P 103 cf_rMeets := fun args v hh => by
  unfold cf_rMeets at hh; split at hh
  · split at hh
    · rename_i hc; have hk := Option.some.inj hh; subst hk; exact k_rMeets ⟨_, _, _⟩ ⟨_, _⟩ hc
    · cases hh
  · cases hh
theorem x_rMeets (r : Rq) (d : Dr) (hc : (drR ⟨r.az, r.el⟩ ∧ drR d) = True) : cf_rMeets [.agg [I r.az, I r.el, I r.tol], .agg [I d.az, I d.el]] = some (.bool (decide (rmP r d))) := by
  exact if_pos (by rw [hc]; trivial)
theorem k_UnmetBy1 (v : Vi) (r : Rq) (hb : meB v r) : FOk P 101 [eVi v, .vp [eRq r] 0 0] (.bool (decide (meP v r))) := by
  have y := x_meets v r (by simp only [eq_iff_iff, iff_true]; exact hb)
  refine c101.fok rfl (Cor.run (addC_good g_meets (noC_good _)) (noHx_good _) hm ?_)
  simp +contextual -implicitDefEqProofs (maxSteps := 2000000) only [bg_eq, a101, y, ruB, rh_no, Int.reduceLT, Int.reduceLE, Int.reduceAdd, Int.reduceSub, Int.reduceMul, Int.reduceNeg, Int.reduceToNat, Int.reduceEq, Int.reduceNe, Int.reduceTDiv, Int.reduceTMod, implies_true, putL, appN, appX, appC, Eng.Fi, reduceCtorEq, exists_eq_left', exists_eq_left, if_true, if_false, List.replicate, Nat.reduceAdd, Nat.reduceSub, Nat.reduceMul, Nat.reduceLeDiff, Nat.reduceLT, Nat.reduceEqDiff]
def cf_UnmetBy1 : List AV → Option AV
  | [.agg [.int .i64 a, .int .i64 b, .int .i64 c, .int .i64 d], .vp [.agg [.int .i64 e, .int .i64 f, .int .i64 g]] 0 0] => if meB ⟨a, b, c, d⟩ ⟨e, f, g⟩ then some (.bool (decide (meP ⟨a, b, c, d⟩ ⟨e, f, g⟩))) else none
  | _ => none
theorem g_UnmetBy1 : Fn P 101 cf_UnmetBy1 := fun args v h => by
  unfold cf_UnmetBy1 at h; split at h
  · split at h
    · rename_i hc; cases h; exact k_UnmetBy1 ⟨_, _, _, _⟩ ⟨_, _, _⟩ hc
    · cases h
  · cases h
theorem x_UnmetBy1 (v : Vi) (r : Rq) (h : meB v r) : cf_UnmetBy1 [.agg [I v.az, I v.el, I v.fr, I v.to], .vp [.agg [I r.az, I r.el, I r.tol]] 0 0] = some (.bool (decide (meP v r))) := if_pos h
def ixV (r : Rq) : Nat → List Vi → Int
  | _, [] => -1
  | n, v :: l => if meP v r then n else ixV r (n + 1) l
theorem ixV_any (r : Rq) : ∀ (l : List Vi) (n : Nat), decide (0 ≤ ixV r n l) = l.any fun v => decide (meP v r)
  | [], n => by simp [ixV]
  | v :: l, n => by
    rw [ixV, List.any_cons]
    split
    · rename_i h; simp [h]
    · rename_i h
      rw [ixV_any r l (n + 1)]
      simp [h]
def vsB (l : List Vi) (r : Rq) : Prop := (l.length ≤ 1000 ∧ ∀ v ∈ l, drR ⟨v.az, v.el⟩) ∧ drR ⟨r.az, r.el⟩
instance (l : List Vi) (r : Rq) : Decidable (vsB l r) := by unfold vsB; infer_instance
def S126 (l : List Vi) (r : Rq) (n : Nat) : AState := ⟨[.vs (l.map eVi), .fn 101 [] [.vp [eRq r] 0 0], .any, .any, .any, .any, .vs (l.map eVi), I l.length, I n, .any, .any, .any, .any, .any, .any, .any, .any, .any, .any], [], 0⟩
theorem k_IndexFuncV (l : List Vi) (r : Rq) (h : vsB l r) : FOk P 126 [.vs (l.map eVi), .fn 101 [] [.vp [eRq r] 0 0]] (I (ixV r 0 l)) := by
  obtain ⟨⟨hl, hs⟩, hd⟩ := h
  refine c126.fok (by simp only [subs, sub1, free_Vi]) (Cor.run (addC_good g_UnmetBy1 (noC_good _)) (noHx_good _) hm ?_)
  simp +contextual -implicitDefEqProofs (maxSteps := 2000000) only [bg_eq, a126, List.length_map, ruB, rh_no, Int.reduceLT, Int.reduceLE, Int.reduceAdd, Int.reduceSub, Int.reduceMul, Int.reduceNeg, Int.reduceToNat, Int.reduceEq, Int.reduceNe, Int.reduceTDiv, Int.reduceTMod, implies_true, putL, appN, appX, appC, Eng.Fi, reduceCtorEq, exists_eq_left', exists_eq_left, if_true, if_false, List.replicate, Nat.reduceAdd, Nat.reduceSub, Nat.reduceMul, Nat.reduceLeDiff, Nat.reduceLT, Nat.reduceEqDiff]
  refine Cor.lp (addC_good g_UnmetBy1 (noC_good _)) (noHx_good _) hm (S126 l r) (fun n => n ≤ l.length ∧ ixV r 0 l = ixV r n (l.drop n)) (fun n => l.length - n) (a := 0) ⟨Nat.zero_le _, rfl⟩ (Wkn.keep [0, 1, 6, 7, 8] rfl) ?_
  intro f n ⟨hn, hf⟩ go
  rcases Nat.lt_or_ge n l.length with h | h
  · have e1 : decide ((n : Int) < (l.length : Int)) = true := lt_t h
    have e2 : (l.map eVi)[n]? = some (eVi l[n]) := get_e eVi l h
    have e3 : IntKind.wrap .i64 ((n : Int) + 1) = ((n + 1 : Nat) : Int) := suc_w (by omega)
    have y := x_UnmetBy1 l[n] r ⟨hs _ (by simp), hd⟩
    rw [List.drop_eq_getElem_cons h, ixV] at hf
    by_cases hc : meP l[n] r
    · rw [if_pos hc] at hf
      simp +contextual -implicitDefEqProofs (maxSteps := 2000000) only [S126, e1, e2, e3, y, hc, ruB, rh_no, Int.reduceLT, Int.reduceLE, Int.reduceAdd, Int.reduceSub, Int.reduceMul, Int.reduceNeg, Int.reduceToNat, Int.reduceEq, Int.reduceNe, Int.reduceTDiv, Int.reduceTMod, implies_true, putL, appN, appX, appC, Eng.Fi, reduceCtorEq, exists_eq_left', exists_eq_left, if_true, if_false, List.replicate, Nat.reduceAdd, Nat.reduceSub, Nat.reduceMul, Nat.reduceLeDiff, Nat.reduceLT, Nat.reduceEqDiff]
      rw [hf]
    · rw [if_neg hc] at hf
      simp +contextual -implicitDefEqProofs (maxSteps := 2000000) only [S126, e1, e2, e3, y, hc, ruB, rh_no, Int.reduceLT, Int.reduceLE, Int.reduceAdd, Int.reduceSub, Int.reduceMul, Int.reduceNeg, Int.reduceToNat, Int.reduceEq, Int.reduceNe, Int.reduceTDiv, Int.reduceTMod, implies_true, putL, appN, appX, appC, Eng.Fi, reduceCtorEq, exists_eq_left', exists_eq_left, if_true, if_false, List.replicate, Nat.reduceAdd, Nat.reduceSub, Nat.reduceMul, Nat.reduceLeDiff, Nat.reduceLT, Nat.reduceEqDiff]
      exact go _ (n + 1) ⟨h, hf⟩ (by omega) (Wkn.keep [0, 1, 6, 7, 8] rfl)
  · have e1 : decide ((n : Int) < (l.length : Int)) = false := lt_f h
    rw [List.drop_eq_nil_of_le h] at hf
    simp +contextual -implicitDefEqProofs (maxSteps := 2000000) only [S126, e1, ruB, rh_no, Int.reduceLT, Int.reduceLE, Int.reduceAdd, Int.reduceSub, Int.reduceMul, Int.reduceNeg, Int.reduceToNat, Int.reduceEq, Int.reduceNe, Int.reduceTDiv, Int.reduceTMod, implies_true, putL, appN, appX, appC, Eng.Fi, reduceCtorEq, exists_eq_left', exists_eq_left, if_true, if_false, List.replicate, Nat.reduceAdd, Nat.reduceSub, Nat.reduceMul, Nat.reduceLeDiff, Nat.reduceLT, Nat.reduceEqDiff]
    rw [hf]; rfl
def cf_IndexFuncV : List AV → Option AV
  | [.vs vals, .fn 101 [] [.vp [.agg [.int .i64 e, .int .i64 f, .int .i64 g]] 0 0]] => onL dVi vals fun l => if vsB l ⟨e, f, g⟩ then some (I (ixV ⟨e, f, g⟩ 0 l)) else none
  | _ => none
theorem g_IndexFuncV : Fn P 126 cf_IndexFuncV := fun args v h => by
  unfold cf_IndexFuncV at h; split at h
  · obtain ⟨l, rfl, h2⟩ := onL_inv dVi_inv h
    split at h2
    · rename_i hc; cases h2; exact k_IndexFuncV l ⟨_, _, _⟩ hc
    · cases h2
  · cases h
theorem x_IndexFuncV (l : List Vi) (r : Rq) (h : vsB l r) : cf_IndexFuncV [.vs (l.map eVi), .fn 101 [] [.vp [.agg [I r.az, I r.el, I r.tol]] 0 0]] = some (I (ixV r 0 l)) := by
  simp only [cf_IndexFuncV, onL_map dVi_e]
  rw [if_pos h]
theorem k_ContainsFuncV (l : List Vi) (r : Rq) (h : vsB l r) : FOk P 100 [.vs (l.map eVi), .fn 101 [] [.vp [eRq r] 0 0]] (.bool (l.any fun v => decide (meP v r))) := by
  have y := x_IndexFuncV l r h
  rw [← ixV_any r l 0]
  refine c100.fok (by simp only [subs, sub1, free_Vi]) (Cor.run (addC_good g_IndexFuncV (noC_good _)) (noHx_good _) hm ?_)
  simp +contextual -implicitDefEqProofs (maxSteps := 2000000) only [bg_eq, a100, y, ruB, rh_no, Int.reduceLT, Int.reduceLE, Int.reduceAdd, Int.reduceSub, Int.reduceMul, Int.reduceNeg, Int.reduceToNat, Int.reduceEq, Int.reduceNe, Int.reduceTDiv, Int.reduceTMod, implies_true, putL, appN, appX, appC, Eng.Fi, reduceCtorEq, exists_eq_left', exists_eq_left, if_true, if_false, List.replicate, Nat.reduceAdd, Nat.reduceSub, Nat.reduceMul, Nat.reduceLeDiff, Nat.reduceLT, Nat.reduceEqDiff]
def cf_ContainsFuncV : List AV → Option AV
  | [.vs vals, .fn 101 [] [.vp [.agg [.int .i64 e, .int .i64 f, .int .i64 g]] 0 0]] => onL dVi vals fun l => if vsB l ⟨e, f, g⟩ then some (.bool (l.any fun v => decide (meP v ⟨e, f, g⟩))) else none
  | _ => none
theorem g_ContainsFuncV : Fn P 100 cf_ContainsFuncV := fun args v h => by
  unfold cf_ContainsFuncV at h; split at h
  · obtain ⟨l, rfl, h2⟩ := onL_inv dVi_inv h
    split at h2
    · rename_i hc; cases h2; exact k_ContainsFuncV l ⟨_, _, _⟩ hc
    · cases h2
  · cases h
theorem x_ContainsFuncV (l : List Vi) (r : Rq) (h : vsB l r) : cf_ContainsFuncV [.vs (l.map eVi), .fn 101 [] [.vp [.agg [I r.az, I r.el, I r.tol]] 0 0]] = some (.bool (l.any fun v => decide (meP v r))) := by
  simp only [cf_ContainsFuncV, onL_map dVi_e]
  rw [if_pos h]
end Sc
