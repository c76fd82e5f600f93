import Derived.Test.YtabkbhpeeefmgaaEngS9
import Derived.Test.YtabkbhpeeefmgaaW918
import Derived.Test.YtabkbhpeeefmgaaW914
open Go Go.Proofs Eng
set_option maxRecDepth 100000
set_option linter.unusedSimpArgs false
set_option linter.unusedVariables false
def a23 : AC := .seq (.ops false [] [⟨some 2, .box 46 3 1 true, [.t 0], none⟩, ⟨some 3, .box 46 3 1 true, [.t 1], none⟩, ⟨some 4, .p (.mov), [.c (.int .i64 0)], none⟩]) (.seq (.ops true [] [⟨some 7, .p (.faddr 0), [.t 2], none⟩, ⟨some 8, .p (.faddr 0), [.t 7], none⟩, ⟨some 9, .load 1 false, [.t 8], none⟩, ⟨some 10, .p (.faddr 0), [.t 3], none⟩, ⟨some 11, .p (.faddr 0), [.t 10], none⟩, ⟨some 12, .load 1 false, [.t 11], none⟩, ⟨some 13, .p (.binI .sub), [.t 9, .t 12], none⟩, ⟨some 14, .p (.faddr 0), [.t 2], none⟩, ⟨some 15, .p (.faddr 1), [.t 14], none⟩, ⟨some 16, .load 1 false, [.t 15], none⟩, ⟨some 17, .p (.faddr 0), [.t 3], none⟩, ⟨some 18, .p (.faddr 1), [.t 17], none⟩, ⟨some 19, .load 1 false, [.t 18], none⟩, ⟨some 20, .p (.binI .sub), [.t 16, .t 19], none⟩, ⟨some 5, .p (.mov), [.t 13], none⟩, ⟨some 6, .p (.mov), [.t 20], none⟩]) (.seq (.ops false [] [⟨some 21, .p (.mov), [.t 5], none⟩, ⟨some 22, .p (.mov), [.t 5], none⟩, ⟨some 23, .p (.binI .mul), [.t 21, .t 22], none⟩, ⟨some 24, .p (.mov), [.t 6], none⟩, ⟨some 25, .p (.mov), [.t 6], none⟩, ⟨some 26, .p (.binI .mul), [.t 24, .t 25], none⟩, ⟨some 27, .p (.binI .add), [.t 23, .t 26], none⟩, ⟨some 28, .p (.faddr 2), [.t 2], none⟩, ⟨some 29, .load 1 false, [.t 28], none⟩, ⟨some 30, .p (.faddr 2), [.t 3], none⟩, ⟨some 31, .load 1 false, [.t 30], none⟩, ⟨some 32, .p (.binI .sub), [.t 29, .t 31], none⟩, ⟨some 33, .call 89, [.t 32], none⟩, ⟨some 34, .p (.binI .add), [.t 27, .t 33], none⟩, ⟨some 4, .p (.mov), [.t 34], none⟩]) (.ret)))
theorem c23 : FnC Try.prog 23 35 a23 [.tmp 4] := ⟨Try.call23, _, _, Try.func23, rfl, by kernel_rfl, by kernel_rfl, rfl⟩
def a41 : AC := .seq (.ops false [] [⟨some 2, .p (.mov), [.c (.bool false)], none⟩]) (.seq (.ops false [] [⟨some 3, .p (.mov), [.t 0], none⟩, ⟨some 4, .p (.lenS), [.t 3], none⟩, ⟨some 5, .p (.binI .leq), [.t 4, .c (.int .i64 5)], none⟩, ⟨some 2, .p (.mov), [.t 5], none⟩]) (.ret))
theorem c41 : FnC Try.prog 41 6 a41 [.tmp 2] := ⟨Try.call41, _, _, Try.func41, rfl, by kernel_rfl, by kernel_rfl, rfl⟩
def a42 : AC := .seq (.ops false [] [⟨some 6, .p (.mov), [.c (.int .i64 0)], none⟩]) (.seq (.seq (.ops false [] [⟨some 9, .p (.mov), [.t 0], none⟩, ⟨some 10, .call 85, [.t 9], none⟩, ⟨some 7, .p (.mov), [.t 10], none⟩]) (.seq (.ops false [] [⟨some 11, .p (.mov), [.t 7], none⟩, ⟨some 12, .p (.binI .neq), [.t 11, .c (.int .i64 0)], none⟩]) (.cond (.t 12) (.seq (.ops false [] [⟨some 13, .p (.mov), [.t 7], none⟩, ⟨some 6, .p (.mov), [.t 13], none⟩]) (.ret)) (.skip)))) (.seq (.seq (.ops false [] [⟨some 14, .p (.mov), [.t 1], none⟩, ⟨some 15, .call 85, [.t 14], none⟩, ⟨some 8, .p (.mov), [.t 15], none⟩]) (.seq (.ops false [] [⟨some 16, .p (.mov), [.t 8], none⟩, ⟨some 17, .p (.binI .neq), [.t 16, .c (.int .i64 0)], none⟩]) (.cond (.t 17) (.seq (.ops false [] [⟨some 18, .p (.mov), [.t 8], none⟩, ⟨some 6, .p (.mov), [.t 18], none⟩]) (.ret)) (.skip)))) (.seq (.ops false [] [⟨some 19, .p (.mov), [.t 2], none⟩, ⟨some 20, .call 86, [.t 19], none⟩, ⟨some 6, .p (.mov), [.t 20], none⟩]) (.ret))))
theorem c42 : FnC Try.prog 42 21 a42 [.tmp 6] := ⟨Try.call42, _, _, Try.func42, rfl, by kernel_rfl, by kernel_rfl, rfl⟩
def a44 : AC := .seq (.ops false [] [⟨some 6, .p (.mov), [.c (.nilslice)], none⟩]) (.seq (.ops false [] [⟨some 7, .p (.mov), [.c (.nilslice)], none⟩]) (.seq (.seq (.ops false [] [⟨some 8, .p (.mov), [.c (.int .i64 0)], none⟩]) (.block 0 (.loop (.seq (.seq (.ops false [] [⟨some 12, .p (.mov), [.t 8], none⟩, ⟨some 13, .p (.mov), [.t 0], none⟩, ⟨some 14, .p (.lenS), [.t 13], none⟩, ⟨some 15, .p (.mov), [.t 1], none⟩, ⟨some 16, .p (.lenS), [.t 15], none⟩, ⟨some 17, .p (.binI .add), [.t 14, .t 16], none⟩, ⟨some 18, .p (.binI .lss), [.t 12, .t 17], none⟩]) (.cond (.t 18) (.skip) (.exit 0))) (.seq (.block 1 (.seq (.ops false [] [⟨some 9, .p (.mov), [.c (.nilslice)], none⟩]) (.seq (.seq (.ops false [] [⟨some 10, .p (.mov), [.c (.int .i64 0)], none⟩]) (.block 2 (.loop (.seq (.seq (.ops false [] [⟨some 21, .p (.mov), [.t 10], none⟩, ⟨some 22, .p (.mov), [.t 0], none⟩, ⟨some 23, .p (.lenS), [.t 22], none⟩, ⟨some 24, .p (.mov), [.t 1], none⟩, ⟨some 25, .p (.lenS), [.t 24], none⟩, ⟨some 26, .p (.binI .add), [.t 23, .t 25], none⟩, ⟨some 27, .p (.binI .lss), [.t 21, .t 26], none⟩]) (.cond (.t 27) (.skip) (.exit 2))) (.seq (.block 3 (.seq (.ops false [] [⟨some 11, .p (.mov), [.c (.int .i64 0)], none⟩]) (.seq (.seq (.ops false [] [⟨some 30, .p (.mov), [.t 8], none⟩, ⟨some 31, .p (.mov), [.t 0], none⟩, ⟨some 32, .p (.lenS), [.t 31], none⟩, ⟨some 33, .p (.binI .lss), [.t 30, .t 32], none⟩, ⟨some 34, .p (.mov), [.t 33], none⟩, ⟨some 35, .p (.mov), [.t 10], some (34, true)⟩, ⟨some 36, .p (.mov), [.t 1], some (34, true)⟩, ⟨some 37, .p (.lenS), [.t 36], some (34, true)⟩, ⟨some 38, .p (.binI .lss), [.t 35, .t 37], some (34, true)⟩, ⟨some 39, .p (.pick), [.t 34, .t 38, .c (.bool false)], none⟩]) (.cond (.t 39) (.ops true [] [⟨some 40, .p (.mov), [.t 0], none⟩, ⟨some 41, .p (.mov), [.t 8], none⟩, ⟨some 42, .p (.iaddrS 3), [.t 40, .t 41], none⟩, ⟨some 43, .load 3 true, [.t 42], none⟩, ⟨some 44, .p (.mov), [.t 1], none⟩, ⟨some 45, .p (.mov), [.t 10], none⟩, ⟨some 46, .p (.iaddrS 3), [.t 44, .t 45], none⟩, ⟨some 47, .load 3 true, [.t 46], none⟩, ⟨some 48, .call 23, [.t 43, .t 47], none⟩, ⟨some 11, .p (.mov), [.t 48], none⟩]) (.seq (.ops false [] [⟨some 49, .p (.mov), [.t 8], none⟩, ⟨some 50, .p (.mov), [.t 0], none⟩, ⟨some 51, .p (.lenS), [.t 50], none⟩, ⟨some 52, .p (.binI .lss), [.t 49, .t 51], none⟩, ⟨some 53, .p (.mov), [.t 52], none⟩, ⟨some 54, .p (.mov), [.t 10], some (53, false)⟩, ⟨some 55, .p (.mov), [.t 1], some (53, false)⟩, ⟨some 56, .p (.lenS), [.t 55], some (53, false)⟩, ⟨some 57, .p (.binI .lss), [.t 54, .t 56], some (53, false)⟩, ⟨some 58, .p (.pick), [.t 53, .c (.bool true), .t 57], none⟩]) (.cond (.t 58) (.ops false [] [⟨some 59, .p (.mov), [.t 2], none⟩, ⟨some 11, .p (.mov), [.t 59], none⟩]) (.skip))))) (.ops false [] [⟨some 60, .p (.mov), [.t 9], none⟩, ⟨some 61, .p (.mov), [.t 11], none⟩, ⟨some 62, .fbs 1, [.t 61], none⟩, ⟨some 63, .app 3 1 8, [.t 60, .t 62], none⟩, ⟨some 9, .p (.mov), [.t 63], none⟩])))) (.ops false [] [⟨some 28, .p (.mov), [.t 10], none⟩, ⟨some 29, .p (.binI .add), [.t 28, .c (.int .i64 1)], none⟩, ⟨some 10, .p (.mov), [.t 29], none⟩])))))) (.ops false [] [⟨some 64, .p (.mov), [.t 7], none⟩, ⟨some 65, .p (.mov), [.t 9], none⟩, ⟨some 66, .fbs 1, [.t 65], none⟩, ⟨some 67, .app 38 1 24, [.t 64, .t 66], none⟩, ⟨some 7, .p (.mov), [.t 67], none⟩])))) (.ops false [] [⟨some 19, .p (.mov), [.t 8], none⟩, ⟨some 20, .p (.binI .add), [.t 19, .c (.int .i64 1)], none⟩, ⟨some 8, .p (.mov), [.t 20], none⟩])))))) (.seq (.ops false [] [⟨some 68, .p (.mov), [.t 7], none⟩, ⟨some 6, .p (.mov), [.t 68], none⟩]) (.ret))))
theorem c44 : FnC Try.prog 44 69 a44 [.tmp 6] := ⟨Try.call44, _, _, Try.func44, rfl, by kernel_rfl, by kernel_rfl, rfl⟩
def a85 : AC := .seq (.ops false [] [⟨some 2, .p (.mov), [.c (.int .i64 0)], none⟩]) (.seq (.seq (.ops false [] [⟨some 5, .p (.mov), [.t 0], none⟩, ⟨some 6, .p (.lenS), [.t 5], none⟩, ⟨some 7, .p (.binI .gtr), [.t 6, .c (.int .i64 3)], none⟩]) (.cond (.t 7) (.seq (.ops false [] [⟨some 2, .p (.mov), [.c (.int .i64 8)], none⟩]) (.ret)) (.skip))) (.seq (.seq (.ops false [] [⟨some 3, .p (.mov), [.c (.int .i64 0)], none⟩]) (.block 0 (.loop (.seq (.seq (.ops false [] [⟨some 8, .p (.mov), [.t 3], none⟩, ⟨some 9, .p (.mov), [.t 0], none⟩, ⟨some 10, .p (.lenS), [.t 9], none⟩, ⟨some 11, .p (.binI .lss), [.t 8, .t 10], none⟩]) (.cond (.t 11) (.skip) (.exit 0))) (.seq (.block 1 (.seq (.ops false [] [⟨some 14, .p (.mov), [.t 0], none⟩, ⟨some 15, .p (.mov), [.t 3], none⟩, ⟨some 16, .p (.iaddrS 3), [.t 14, .t 15], none⟩, ⟨some 17, .load 3 true, [.t 16], none⟩, ⟨some 18, .call 46, [.t 17], none⟩, ⟨some 4, .p (.mov), [.t 18], none⟩]) (.seq (.ops false [] [⟨some 19, .p (.mov), [.t 4], none⟩, ⟨some 20, .p (.binI .neq), [.t 19, .c (.int .i64 0)], none⟩]) (.cond (.t 20) (.seq (.ops false [] [⟨some 21, .p (.mov), [.t 4], none⟩, ⟨some 2, .p (.mov), [.t 21], none⟩]) (.ret)) (.skip))))) (.ops false [] [⟨some 12, .p (.mov), [.t 3], none⟩, ⟨some 13, .p (.binI .add), [.t 12, .c (.int .i64 1)], none⟩, ⟨some 3, .p (.mov), [.t 13], none⟩])))))) (.seq (.ops false [] [⟨some 2, .p (.mov), [.c (.int .i64 0)], none⟩]) (.ret))))
theorem c85 : FnC Try.prog 85 22 a85 [.tmp 2] := ⟨Try.call85, _, _, Try.func85, rfl, by kernel_rfl, by kernel_rfl, rfl⟩
def a86 : AC := .seq (.ops false [] [⟨some 2, .p (.mov), [.c (.int .i64 0)], none⟩]) (.seq (.seq (.ops false [] [⟨some 3, .p (.mov), [.t 0], none⟩, ⟨some 4, .call 20, [.t 3, .c (.int .i64 0), .c (.int .i64 10000000)], none⟩, ⟨some 5, .p (.notB), [.t 4], none⟩]) (.cond (.t 5) (.seq (.ops false [] [⟨some 2, .p (.mov), [.c (.int .i64 2)], none⟩]) (.ret)) (.skip))) (.seq (.ops false [] [⟨some 2, .p (.mov), [.c (.int .i64 0)], none⟩]) (.ret)))
theorem c86 : FnC Try.prog 86 6 a86 [.tmp 2] := ⟨Try.call86, _, _, Try.func86, rfl, by kernel_rfl, by kernel_rfl, rfl⟩
namespace Wa
theorem k_rMissErr (n : Int) : FOk P 86 [I n] (I (unl (miR n) 2)) := by
  by_cases h : miR n
  · have h' := eq_true h
    rw [unl_t 2 h]
    unfold miR at h'
    refine c86.fok rfl (Cor.run (addC_good g_Within (noC_good _)) (noHx_good _) hm ?_)
    simp +contextual -implicitDefEqProofs (maxSteps := 2000000) only [bg_eq, a86, x_Within, h', not_true_eq_false, ruB, rh_no, Int.reduceLT, Int.reduceLE, Int.reduceAdd, Int.reduceSub, Int.reduceMul, Int.reduceNeg, Int.reduceToNat, Int.reduceEq, Int.reduceNe, Int.reduceTDiv, Int.reduceTMod, implies_true, putL, appN, appX, appC, Eng.Fi, reduceCtorEq, exists_eq_left', exists_eq_left, if_true, if_false, List.replicate, Nat.reduceAdd, Nat.reduceSub, Nat.reduceMul, Nat.reduceLeDiff, Nat.reduceLT, Nat.reduceEqDiff]
  · have h' := eq_false h
    rw [unl_f 2 h]
    unfold miR at h'
    refine c86.fok rfl (Cor.run (addC_good g_Within (noC_good _)) (noHx_good _) hm ?_)
    simp +contextual -implicitDefEqProofs (maxSteps := 2000000) only [bg_eq, a86, x_Within, h', not_false_eq_true, ruB, rh_no, Int.reduceLT, Int.reduceLE, Int.reduceAdd, Int.reduceSub, Int.reduceMul, Int.reduceNeg, Int.reduceToNat, Int.reduceEq, Int.reduceNe, Int.reduceTDiv, Int.reduceTMod, implies_true, putL, appN, appX, appC, Eng.Fi, reduceCtorEq, exists_eq_left', exists_eq_left, if_true, if_false, List.replicate, Nat.reduceAdd, Nat.reduceSub, Nat.reduceMul, Nat.reduceLeDiff, Nat.reduceLT, Nat.reduceEqDiff]
def cf_rMissErr : List AV → Option AV
  | [.int .i64 n] => some (.int .i64 (unl (miR n) 2))
  | _ => none
theorem g_rMissErr : Fn P 86 cf_rMissErr := fun args v h => by
  unfold cf_rMissErr at h; split at h
  · have h := Option.some.inj h; subst h; exact k_rMissErr _
  · cases h
theorem x_rMissErr (n : Int) : cf_rMissErr [.int .i64 n] = some (.int .i64 (unl (miR n) 2)) := rfl
def S_rs (l : List Vo) (k : Nat) : AState := ⟨[.vs (l.map eVo), .any, .any, I k, .any, .any, .any, .any, .any, .any, .any, .any, .any, .any, .any, .any, .any, .any, .any, .any, .any, .any], [], 0⟩
theorem k_rScanErr (l : List Vo) : FOk P 85 [.vs (l.map eVo)] (I (scE l)) := by
  rw [scE]
  by_cases h3 : 3 < (l.length : Int)
  · have h3' := eq_true h3
    rw [if_pos h3]
    refine c85.fok (by simp only [subs, sub1, free_Vo]) (Cor.run (addC_good g_rVortexErr (noC_good _)) (noHx_good _) hm ?_)
    simp +contextual -implicitDefEqProofs (maxSteps := 2000000) only [bg_eq, a85, List.length_map, h3', ruB, rh_no, Int.reduceLT, Int.reduceLE, Int.reduceAdd, Int.reduceSub, Int.reduceMul, Int.reduceNeg, Int.reduceToNat, Int.reduceEq, Int.reduceNe, Int.reduceTDiv, Int.reduceTMod, implies_true, putL, appN, appX, appC, Eng.Fi, reduceCtorEq, exists_eq_left', exists_eq_left, if_true, if_false, List.replicate, Nat.reduceAdd, Nat.reduceSub, Nat.reduceMul, Nat.reduceLeDiff, Nat.reduceLT, Nat.reduceEqDiff]
  · have h3' := eq_false h3
    rw [if_neg h3]
    refine c85.fok (by simp only [subs, sub1, free_Vo]) (Cor.run (addC_good g_rVortexErr (noC_good _)) (noHx_good _) hm ?_)
    simp +contextual -implicitDefEqProofs (maxSteps := 2000000) only [bg_eq, a85, List.length_map, h3', Int.natCast_zero, ruB, rh_no, Int.reduceLT, Int.reduceLE, Int.reduceAdd, Int.reduceSub, Int.reduceMul, Int.reduceNeg, Int.reduceToNat, Int.reduceEq, Int.reduceNe, Int.reduceTDiv, Int.reduceTMod, implies_true, putL, appN, appX, appC, Eng.Fi, reduceCtorEq, exists_eq_left', exists_eq_left, if_true, if_false, List.replicate, Nat.reduceAdd, Nat.reduceSub, Nat.reduceMul, Nat.reduceLeDiff, Nat.reduceLT, Nat.reduceEqDiff]
    refine Cor.lp (addC_good g_rVortexErr (noC_good _)) (noHx_good _) hm (S_rs l) (fun k => k ≤ l.length ∧ voG l = voG (l.drop k)) (fun k => l.length - k) (a := 0) ⟨Nat.zero_le _, rfl⟩ (Wkn.keep [0, 3] rfl) ?_
    intro f k ⟨hk, hf⟩ go
    rcases Nat.lt_or_ge k l.length with h | h
    · have e1 : decide ((k : Int) < (l.length : Int)) = true := lt_t h
      have e2 : (l.map eVo)[k]? = some (eVo l[k]) := get_e eVo l h
      have e3 : IntKind.wrap .i64 ((k : Int) + 1) = ((k + 1 : Nat) : Int) := suc_w (by omega)
      have y := x_rVortexErr l[k]
      rw [List.drop_eq_getElem_cons h, voG] at hf
      generalize l[k] = r at *
      by_cases c1 : voE r = 0
      · have c1' := eq_true c1
        rw [if_pos c1] at hf
        simp +contextual -implicitDefEqProofs (maxSteps := 2000000) only [S_rs, e1, e2, e3, y, c1', List.length_map, not_true_eq_false, ruB, rh_no, Int.reduceLT, Int.reduceLE, Int.reduceAdd, Int.reduceSub, Int.reduceMul, Int.reduceNeg, Int.reduceToNat, Int.reduceEq, Int.reduceNe, Int.reduceTDiv, Int.reduceTMod, implies_true, putL, appN, appX, appC, Eng.Fi, reduceCtorEq, exists_eq_left', exists_eq_left, if_true, if_false, List.replicate, Nat.reduceAdd, Nat.reduceSub, Nat.reduceMul, Nat.reduceLeDiff, Nat.reduceLT, Nat.reduceEqDiff]
        exact go _ (k + 1) ⟨h, hf⟩ (by omega) (Wkn.keep [0, 3] rfl)
      · have c1' := eq_false c1
        rw [if_neg c1] at hf
        rw [hf]
        simp +contextual -implicitDefEqProofs (maxSteps := 2000000) only [S_rs, e1, e2, e3, y, c1', List.length_map, not_false_eq_true, ruB, rh_no, Int.reduceLT, Int.reduceLE, Int.reduceAdd, Int.reduceSub, Int.reduceMul, Int.reduceNeg, Int.reduceToNat, Int.reduceEq, Int.reduceNe, Int.reduceTDiv, Int.reduceTMod, implies_true, putL, appN, appX, appC, Eng.Fi, reduceCtorEq, exists_eq_left', exists_eq_left, if_true, if_false, List.replicate, Nat.reduceAdd, Nat.reduceSub, Nat.reduceMul, Nat.reduceLeDiff, Nat.reduceLT, Nat.reduceEqDiff]
    · have e1 : decide ((k : Int) < (l.length : Int)) = false := lt_f h
      rw [List.drop_eq_nil_of_le h, voG] at hf
      rw [hf]
      simp +contextual -implicitDefEqProofs (maxSteps := 2000000) only [S_rs, e1, List.length_map, ruB, rh_no, Int.reduceLT, Int.reduceLE, Int.reduceAdd, Int.reduceSub, Int.reduceMul, Int.reduceNeg, Int.reduceToNat, Int.reduceEq, Int.reduceNe, Int.reduceTDiv, Int.reduceTMod, implies_true, putL, appN, appX, appC, Eng.Fi, reduceCtorEq, exists_eq_left', exists_eq_left, if_true, if_false, List.replicate, Nat.reduceAdd, Nat.reduceSub, Nat.reduceMul, Nat.reduceLeDiff, Nat.reduceLT, Nat.reduceEqDiff]
def cf_rScanErr : List AV → Option AV
  | [.vs l_v] => onL dVo l_v fun l => some (I (scE l))
  | _ => none
theorem g_rScanErr : Fn P 85 cf_rScanErr := fun args v hh => by
  unfold cf_rScanErr at hh; split at hh
  · obtain ⟨l, rfl, hh1⟩ := onL_inv dVo_inv hh
    have hk := Option.some.inj hh1; subst hk; exact k_rScanErr _
  · cases hh
theorem x_rScanErr (l : List Vo) : cf_rScanErr [.vs (l.map eVo)] = some (I (scE l)) := by
  simp only [cf_rScanErr, onL_map dVo_e]
theorem k_rLinksErr (a b : List Vo) (n : Int) : FOk P 42 [.vs (a.map eVo), .vs (b.map eVo), I n] (I (olE a b n)) := by
  have y1 := x_rScanErr a
  have y2 := x_rScanErr b
  rw [olE]
  by_cases h1 : scE a = 0
  · have h1' := eq_true h1
    rw [h1, fE0]
    by_cases h2 : scE b = 0
    · have h2' := eq_true h2
      rw [h2, fE0, firstE_one]
      refine c42.fok (by simp only [subs, sub1, free_Vo]) (Cor.run (addC_good g_rMissErr (addC_good g_rScanErr (noC_good _))) (noHx_good _) hm ?_)
      simp +contextual -implicitDefEqProofs (maxSteps := 2000000) only [bg_eq, a42, y1, y2, x_rMissErr, h1', h2', not_true_eq_false, ruB, rh_no, Int.reduceLT, Int.reduceLE, Int.reduceAdd, Int.reduceSub, Int.reduceMul, Int.reduceNeg, Int.reduceToNat, Int.reduceEq, Int.reduceNe, Int.reduceTDiv, Int.reduceTMod, implies_true, putL, appN, appX, appC, Eng.Fi, reduceCtorEq, exists_eq_left', exists_eq_left, if_true, if_false, List.replicate, Nat.reduceAdd, Nat.reduceSub, Nat.reduceMul, Nat.reduceLeDiff, Nat.reduceLT, Nat.reduceEqDiff]
    · have h2' := eq_false h2
      rw [fE1 h2]
      refine c42.fok (by simp only [subs, sub1, free_Vo]) (Cor.run (addC_good g_rMissErr (addC_good g_rScanErr (noC_good _))) (noHx_good _) hm ?_)
      simp +contextual -implicitDefEqProofs (maxSteps := 2000000) only [bg_eq, a42, y1, y2, h1', h2', not_true_eq_false, not_false_eq_true, ruB, rh_no, Int.reduceLT, Int.reduceLE, Int.reduceAdd, Int.reduceSub, Int.reduceMul, Int.reduceNeg, Int.reduceToNat, Int.reduceEq, Int.reduceNe, Int.reduceTDiv, Int.reduceTMod, implies_true, putL, appN, appX, appC, Eng.Fi, reduceCtorEq, exists_eq_left', exists_eq_left, if_true, if_false, List.replicate, Nat.reduceAdd, Nat.reduceSub, Nat.reduceMul, Nat.reduceLeDiff, Nat.reduceLT, Nat.reduceEqDiff]
  · have h1' := eq_false h1
    rw [fE1 h1]
    refine c42.fok (by simp only [subs, sub1, free_Vo]) (Cor.run (addC_good g_rMissErr (addC_good g_rScanErr (noC_good _))) (noHx_good _) hm ?_)
    simp +contextual -implicitDefEqProofs (maxSteps := 2000000) only [bg_eq, a42, y1, y2, h1', not_true_eq_false, not_false_eq_true, ruB, rh_no, Int.reduceLT, Int.reduceLE, Int.reduceAdd, Int.reduceSub, Int.reduceMul, Int.reduceNeg, Int.reduceToNat, Int.reduceEq, Int.reduceNe, Int.reduceTDiv, Int.reduceTMod, implies_true, putL, appN, appX, appC, Eng.Fi, reduceCtorEq, exists_eq_left', exists_eq_left, if_true, if_false, List.replicate, Nat.reduceAdd, Nat.reduceSub, Nat.reduceMul, Nat.reduceLeDiff, Nat.reduceLT, Nat.reduceEqDiff]
def cf_rLinksErr : List AV → Option AV
  | [.vs a_v, .vs b_v, .int .i64 n] => onL dVo a_v fun a => onL dVo b_v fun b => some (I (olE a b n))
  | _ => none
theorem g_rLinksErr : Fn P 42 cf_rLinksErr := fun args v hh => by
  unfold cf_rLinksErr at hh; split at hh
  · obtain ⟨a, rfl, hh1⟩ := onL_inv dVo_inv hh
    obtain ⟨b, rfl, hh2⟩ := onL_inv dVo_inv hh1
    have hk := Option.some.inj hh2; subst hk; exact k_rLinksErr _ _ _
  · cases hh
theorem x_rLinksErr (a : List Vo) (b : List Vo) (n : Int) : cf_rLinksErr [.vs (a.map eVo), .vs (b.map eVo), .int .i64 n] = some (I (olE a b n)) := by
  simp only [cf_rLinksErr, onL_map dVo_e]
theorem k_brief6 (l : List Vo) : FOk P 41 [.vs (l.map eVo)] (.bool (decide ((l.length : Int) ≤ 5))) := by
  refine c41.fok (by simp only [subs, sub1, free_Vo]) (Cor.run (noC_good _) (noHx_good _) hm ?_)
  simp +contextual -implicitDefEqProofs (maxSteps := 2000000) only [bg_eq, a41, List.length_map, ruB, rh_no, Int.reduceLT, Int.reduceLE, Int.reduceAdd, Int.reduceSub, Int.reduceMul, Int.reduceNeg, Int.reduceToNat, Int.reduceEq, Int.reduceNe, Int.reduceTDiv, Int.reduceTMod, implies_true, putL, appN, appX, appC, Eng.Fi, reduceCtorEq, exists_eq_left', exists_eq_left, if_true, if_false, List.replicate, Nat.reduceAdd, Nat.reduceSub, Nat.reduceMul, Nat.reduceLeDiff, Nat.reduceLT, Nat.reduceEqDiff]
def cf_brief6 : List AV → Option AV
  | [.vs l_v] => onL dVo l_v fun l => some (.bool (decide ((l.length : Int) ≤ 5)))
  | _ => none
theorem g_brief6 : Fn P 41 cf_brief6 := fun args v hh => by
  unfold cf_brief6 at hh; split at hh
  · obtain ⟨l, rfl, hh1⟩ := onL_inv dVo_inv hh
    have hk := Option.some.inj hh1; subst hk; exact k_brief6 _
  · cases hh
theorem x_brief6 (l : List Vo) : cf_brief6 [.vs (l.map eVo)] = some (.bool (decide ((l.length : Int) ≤ 5))) := by
  simp only [cf_brief6, onL_map dVo_e]
theorem k_rOff (v w : Vo) (h : voR v ∧ voR w) : FOk P 23 [eVo v, eVo w] (I (offV v w)) := by
  obtain ⟨⟨b1, b2, b3⟩, b4, b5, b6, b7⟩ := off_bd h.1 h.2
  have w1 : IntKind.wrap .i64 (v.y - w.y) = v.y - w.y := wrap64 (by omega) (by omega)
  have w2 : IntKind.wrap .i64 (v.z - w.z) = v.z - w.z := wrap64 (by omega) (by omega)
  have w3 : IntKind.wrap .i64 ((v.y - w.y) * (v.y - w.y)) = (v.y - w.y) * (v.y - w.y) := wrap64 (by omega) (by omega)
  have w4 : IntKind.wrap .i64 ((v.z - w.z) * (v.z - w.z)) = (v.z - w.z) * (v.z - w.z) := wrap64 (by omega) (by omega)
  have w5 : IntKind.wrap .i64 ((v.y - w.y) * (v.y - w.y) + (v.z - w.z) * (v.z - w.z)) = (v.y - w.y) * (v.y - w.y) + (v.z - w.z) * (v.z - w.z) := wrap64 (by omega) (by omega)
  have w6 : IntKind.wrap .i64 (v.s - w.s) = v.s - w.s := wrap64 (by omega) (by omega)
  have es : max (v.s - w.s) (-(v.s - w.s)) = szV (v.s - w.s) := by unfold szV; omega
  have y := x_Size (v.s - w.s) (by simp only [eq_iff_iff, iff_true]; omega)
  rw [es] at y
  have w7 : IntKind.wrap .i64 ((v.y - w.y) * (v.y - w.y) + (v.z - w.z) * (v.z - w.z) + szV (v.s - w.s)) = offV v w := wrap64 (by omega) (by omega)
  refine c23.fok rfl (Cor.run (addC_good g_Size (noC_good _)) (noHx_good _) hm ?_)
  simp +contextual -implicitDefEqProofs (maxSteps := 2000000) only [bg_eq, a23, w1, w2, w3, w4, w5, w6, y, w7, ruB, rh_no, Int.reduceLT, Int.reduceLE, Int.reduceAdd, Int.reduceSub, Int.reduceMul, Int.reduceNeg, Int.reduceToNat, Int.reduceEq, Int.reduceNe, Int.reduceTDiv, Int.reduceTMod, implies_true, putL, appN, appX, appC, Eng.Fi, reduceCtorEq, exists_eq_left', exists_eq_left, if_true, if_false, List.replicate, Nat.reduceAdd, Nat.reduceSub, Nat.reduceMul, Nat.reduceLeDiff, Nat.reduceLT, Nat.reduceEqDiff]
def cf_rOff : List AV → Option AV
  | [.agg [.int .i64 v_y, .int .i64 v_z, .int .i64 v_s], .agg [.int .i64 w_y, .int .i64 w_z, .int .i64 w_s]] => if voR (⟨v_y, v_z, v_s⟩ : Vo) ∧ voR (⟨w_y, w_z, w_s⟩ : Vo) then some (I (offV (⟨v_y, v_z, v_s⟩ : Vo) (⟨w_y, w_z, w_s⟩ : Vo))) else none
  | _ => none
theorem g_rOff : Fn P 23 cf_rOff := fun args v hh => by
  unfold cf_rOff at hh; split at hh
  · split at hh
    · rename_i hc; have hk := Option.some.inj hh; subst hk; exact k_rOff ⟨_, _, _⟩ ⟨_, _, _⟩ hc
    · cases hh
  · cases hh
theorem x_rOff (v : Vo) (w : Vo) (hc : (voR v ∧ voR w) = True) : cf_rOff [.agg [I v.y, I v.z, I v.s], .agg [I w.y, I w.z, I w.s]] = some (I (offV v w)) := by
  exact if_pos (by rw [hc]; trivial)
end Wa
open Go Go.Proofs Eng
set_option maxRecDepth 100000
set_option linter.unusedSimpArgs false
set_option linter.unusedVariables false
namespace Wa
def S_xo (a b : List Vo) (n : Int) (q : Nat × List L) : AState := ⟨[.vs (a.map eVo), .vs (b.map eVo), I n, .any, .any, .any, .any, gA 0 1 (q.2.map eL), I q.1, .any, .any, .any, .any, .any, .any, .any, .any, .any, .any, .any, .any, .any, .any, .any, .any, .any, .any, .any, .any, .any, .any, .any, .any, .any, .any, .any, .any, .any, .any, .any, .any, .any, .any, .any, .any, .any, .any, .any, .any, .any, .any, .any, .any, .any, .any, .any, .any, .any, .any, .any, .any, .any, .any, .any, .any, .any, .any, .any, .any], gH 0 38 1 (q.2.map eL), 1⟩
def S_xi (a b : List Vo) (n : Int) (out : List L) (i : Nat) (q : Nat × L) : AState := ⟨[.vs (a.map eVo), .vs (b.map eVo), I n, .any, .any, .any, .any, gA 0 1 (out.map eL), I i, gA 1 1 (q.2.map eI), I q.1, .any, .any, .any, .any, .any, .any, .any, .any, .any, .any, .any, .any, .any, .any, .any, .any, .any, .any, .any, .any, .any, .any, .any, .any, .any, .any, .any, .any, .any, .any, .any, .any, .any, .any, .any, .any, .any, .any, .any, .any, .any, .any, .any, .any, .any, .any, .any, .any, .any, .any, .any, .any, .any, .any, .any, .any, .any, .any], gH 1 3 1 (q.2.map eI) ++ gH 0 38 1 (out.map eL), 2⟩
set_option maxHeartbeats 8000000 in
theorem k_rCosts (a b : List Vo) (n : Int) (h0 : olE a b n = 0) : FOk P 44 [.vs (a.map eVo), .vs (b.map eVo), I n] (.vs ((lkL a b n).map eL)) := by
  have hb := olE_z h0
  have ha3 := hb.a.1
  have hb3 := hb.b.1
  have wN : IntKind.wrap .i64 ((a.length : Int) + (b.length : Int)) = ((a.length + b.length : Nat) : Int) := by rw [wrap64 (by omega) (by omega)]; omega
  refine c44.fok (by simp only [subs, sub1, free_Vo]) (Cor.run (addC_good g_rOff (noC_good _)) (noHx_good _) hm ?_)
  simp +contextual -implicitDefEqProofs (maxSteps := 2000000) only [bg_eq, a44, List.length_map, Int.natCast_zero, ruB, rh_no, Int.reduceLT, Int.reduceLE, Int.reduceAdd, Int.reduceSub, Int.reduceMul, Int.reduceNeg, Int.reduceToNat, Int.reduceEq, Int.reduceNe, Int.reduceTDiv, Int.reduceTMod, implies_true, putL, appN, appX, appC, Eng.Fi, reduceCtorEq, exists_eq_left', exists_eq_left, if_true, if_false, List.replicate, Nat.reduceAdd, Nat.reduceSub, Nat.reduceMul, Nat.reduceLeDiff, Nat.reduceLT, Nat.reduceEqDiff]
  refine Cor.lp (addC_good g_rOff (noC_good _)) (noHx_good _) hm (S_xo a b n) (fun q => q.1 ≤ a.length + b.length ∧ q.2 = lkM a b n (a.length + b.length) q.1) (fun q => a.length + b.length - q.1) (a := (0, [])) ⟨Nat.zero_le _, rfl⟩ (Wkn.to ⟨0, [], [], 1, [0, 1, 2, 7, 8]⟩ rfl rfl (by simp [Wk.st, keepT, memN, Wk.fate, Wk.fate0, assoc, getE, Wk.hp, ABlk.sub, sub1, subs, free_Vo, S_xo, gA, gH])) ?_
  rintro f ⟨i, out⟩ ⟨hi, hout⟩ go
  simp only at hi hout
  have hol : out.length = i := by rw [hout, lkM_len]
  rcases Nat.lt_or_ge i (a.length + b.length) with hlt | hlt
  · have e1 : ((i : Int) < ((a.length + b.length : Nat) : Int)) = True := eq_true (by omega)
    have e3 : IntKind.wrap .i64 ((i : Int) + 1) = ((i + 1 : Nat) : Int) := suc_w (by omega)
    simp +contextual -implicitDefEqProofs (maxSteps := 2000000) only [S_xo, e1, e3, List.length_map, wN, Int.natCast_zero, ruB, rh_no, Int.reduceLT, Int.reduceLE, Int.reduceAdd, Int.reduceSub, Int.reduceMul, Int.reduceNeg, Int.reduceToNat, Int.reduceEq, Int.reduceNe, Int.reduceTDiv, Int.reduceTMod, implies_true, putL, appN, appX, appC, Eng.Fi, reduceCtorEq, exists_eq_left', exists_eq_left, if_true, if_false, List.replicate, Nat.reduceAdd, Nat.reduceSub, Nat.reduceMul, Nat.reduceLeDiff, Nat.reduceLT, Nat.reduceEqDiff]
    refine Cor.lp (addC_good g_rOff (noC_good _)) (noHx_good _) hm (S_xi a b n out i) (fun q => q.1 ≤ a.length + b.length ∧ q.2 = lkR a b n i q.1) (fun q => a.length + b.length - q.1) (a := (0, [])) ⟨Nat.zero_le _, rfl⟩ ?_ ?_
    · cases out with
      | nil => exact Wkn.to ⟨0, [], [], 2, [0, 1, 2, 7, 8, 9, 10]⟩ rfl rfl (by simp [Wk.st, keepT, memN, Wk.fate, Wk.fate0, assoc, getE, Wk.hp, ABlk.sub, sub1, subs, free_Vo, S_xi, gA, gH])
      | cons q out =>
        have hfq := fun φ => free_I φ q
        have hfo := fun φ => free_L φ out
        exact Wkn.to ⟨0, [(0, 0)], [], 2, [0, 1, 2, 7, 8, 9, 10]⟩ rfl rfl (by simp [Wk.st, keepT, memN, Wk.fate, Wk.fate0, assoc, getE, Wk.hp, ABlk.sub, sub1, subs, free_Vo, S_xi, gA, gH, hfq, hfo])
    rintro f2 ⟨j, row⟩ ⟨hj, hrow⟩ go2
    simp only at hj hrow
    have hrl : row.length = j := by rw [hrow, lkR_len]
    rcases Nat.lt_or_ge j (a.length + b.length) with hlt2 | hlt2
    · have q1 : ((j : Int) < ((a.length + b.length : Nat) : Int)) = True := eq_true (by omega)
      have q3 : IntKind.wrap .i64 ((j : Int) + 1) = ((j + 1 : Nat) : Int) := suc_w (by omega)
      have m1 : (row.length + 1 ≤ maxLen) = True := mx (by omega)
      have m2 : ((row.length + 1) * 8 ≤ 140737488355328) = True := by simp only [eq_iff_iff, iff_true]; omega
      have hnext : ∀ x, lkE a b n i j = x → row ++ [x] = lkR a b n i (j + 1) := fun x hx => by rw [lkR_s, hrow, hx]
      have hfr := fun φ => free_I φ row
      clear hrow hrl
      by_cases c1 : i < a.length
      · have d1 : ((i : Int) < (a.length : Int)) = True := eq_true (by omega)
        by_cases c2 : j < b.length
        · have d2 : ((j : Int) < (b.length : Int)) = True := eq_true (by omega)
          have e4 : (a.map eVo)[i]? = some (eVo a[i]) := get_e eVo a c1
          have e5 : (b.map eVo)[j]? = some (eVo b[j]) := get_e eVo b c2
          have y := x_rOff a[i] b[j] (by simp only [eq_iff_iff, iff_true]; exact ⟨hb.a.2 a[i] (by simp), hb.b.2 b[j] (by simp)⟩)
          have hx := lkE_tt (n := n) c1 c2
          generalize a[i] = v at *
          generalize b[j] = w at *
          generalize offV v w = vw at *
          cases row with
          | nil =>
            simp only [List.map_cons, List.map_nil, subs, List.cons.injEq] at hfr
            simp only [List.length_nil, List.length_cons, Nat.zero_add] at m1 m2
            simp +contextual -implicitDefEqProofs (maxSteps := 2000000) only [S_xi, gA, gH, q1, q3, d1, d2, wN, e4, e5, y, List.map_cons, List.map_nil, List.length_map, rs_nil, rs_t, rs_f, ag_nils, ag_sl, ag_vs, ag_str, ag_ptr, ag_nilp, ag_vp, ag_fun, m1, m2, dg_gH, sb_gH, ge_gH, ruB, rh_no, Int.reduceLT, Int.reduceLE, Int.reduceAdd, Int.reduceSub, Int.reduceMul, Int.reduceNeg, Int.reduceToNat, Int.reduceEq, Int.reduceNe, Int.reduceTDiv, Int.reduceTMod, implies_true, putL, appN, appX, appC, Eng.Fi, reduceCtorEq, exists_eq_left', exists_eq_left, if_true, if_false, List.replicate, Nat.reduceAdd, Nat.reduceSub, Nat.reduceMul, Nat.reduceLeDiff, Nat.reduceLT, Nat.reduceEqDiff]
            cases out with
            | nil => exact go2 _ (j + 1, [] ++ [vw]) ⟨hlt2, hnext _ (hx)⟩ (by simp only; omega) (Wkn.to ⟨0, [(2, 1)], [], 2, [0, 1, 2, 7, 8, 9, 10]⟩ rfl rfl (by simp [Wk.st, keepT, memN, Wk.fate, Wk.fate0, assoc, getE, Wk.hp, ABlk.sub, sub1, subs, free_Vo, S_xi, gA, gH, dropG, Eng.setB, subs_append, hfr]))
            | cons w0 wr =>
              have hf0 := fun φ => free_I φ w0
              have hfo := fun φ => free_L φ wr
              exact go2 _ (j + 1, [] ++ [vw]) ⟨hlt2, hnext _ (hx)⟩ (by simp only; omega) (Wkn.to ⟨0, [(2, 1), (0, 0)], [], 2, [0, 1, 2, 7, 8, 9, 10]⟩ rfl rfl (by simp [Wk.st, keepT, memN, Wk.fate, Wk.fate0, assoc, getE, Wk.hp, ABlk.sub, sub1, subs, free_Vo, S_xi, gA, gH, dropG, Eng.setB, subs_append, hfr, hf0, hfo]))
            
          | cons x0 xr =>
            simp only [List.map_cons, List.map_nil, subs, List.cons.injEq] at hfr
            simp only [List.length_nil, List.length_cons, Nat.zero_add] at m1 m2
            simp +contextual -implicitDefEqProofs (maxSteps := 2000000) only [S_xi, gA, gH, q1, q3, d1, d2, wN, e4, e5, y, List.map_cons, List.map_nil, List.length_map, rs_nil, rs_t, rs_f, ag_nils, ag_sl, ag_vs, ag_str, ag_ptr, ag_nilp, ag_vp, ag_fun, m1, m2, dg_gH, sb_gH, ge_gH, ruB, rh_no, Int.reduceLT, Int.reduceLE, Int.reduceAdd, Int.reduceSub, Int.reduceMul, Int.reduceNeg, Int.reduceToNat, Int.reduceEq, Int.reduceNe, Int.reduceTDiv, Int.reduceTMod, implies_true, putL, appN, appX, appC, Eng.Fi, reduceCtorEq, exists_eq_left', exists_eq_left, if_true, if_false, List.replicate, Nat.reduceAdd, Nat.reduceSub, Nat.reduceMul, Nat.reduceLeDiff, Nat.reduceLT, Nat.reduceEqDiff]
            cases out with
            | nil => exact go2 _ (j + 1, (x0 :: xr) ++ [vw]) ⟨hlt2, hnext _ (hx)⟩ (by simp only; omega) (Wkn.to ⟨0, [(2, 1)], [], 2, [0, 1, 2, 7, 8, 9, 10]⟩ rfl rfl (by simp [Wk.st, keepT, memN, Wk.fate, Wk.fate0, assoc, getE, Wk.hp, ABlk.sub, sub1, subs, free_Vo, S_xi, gA, gH, dropG, Eng.setB, subs_append, hfr]))
            | cons w0 wr =>
              have hf0 := fun φ => free_I φ w0
              have hfo := fun φ => free_L φ wr
              exact go2 _ (j + 1, (x0 :: xr) ++ [vw]) ⟨hlt2, hnext _ (hx)⟩ (by simp only; omega) (Wkn.to ⟨0, [(2, 1), (0, 0)], [], 2, [0, 1, 2, 7, 8, 9, 10]⟩ rfl rfl (by simp [Wk.st, keepT, memN, Wk.fate, Wk.fate0, assoc, getE, Wk.hp, ABlk.sub, sub1, subs, free_Vo, S_xi, gA, gH, dropG, Eng.setB, subs_append, hfr, hf0, hfo]))
            
        · have d2 : ((j : Int) < (b.length : Int)) = False := eq_false (by omega)
          have hx := lkE_or (n := n) (i := i) (j := j) (a := a) (b := b) (by omega) (.inl c1)
          cases row with
          | nil =>
            simp only [List.map_cons, List.map_nil, subs, List.cons.injEq] at hfr
            simp only [List.length_nil, List.length_cons, Nat.zero_add] at m1 m2
            simp +contextual -implicitDefEqProofs (maxSteps := 2000000) only [S_xi, gA, gH, q1, q3, d1, d2, wN,  List.map_cons, List.map_nil, List.length_map, rs_nil, rs_t, rs_f, ag_nils, ag_sl, ag_vs, ag_str, ag_ptr, ag_nilp, ag_vp, ag_fun, m1, m2, dg_gH, sb_gH, ge_gH, ruB, rh_no, Int.reduceLT, Int.reduceLE, Int.reduceAdd, Int.reduceSub, Int.reduceMul, Int.reduceNeg, Int.reduceToNat, Int.reduceEq, Int.reduceNe, Int.reduceTDiv, Int.reduceTMod, implies_true, putL, appN, appX, appC, Eng.Fi, reduceCtorEq, exists_eq_left', exists_eq_left, if_true, if_false, List.replicate, Nat.reduceAdd, Nat.reduceSub, Nat.reduceMul, Nat.reduceLeDiff, Nat.reduceLT, Nat.reduceEqDiff]
            cases out with
            | nil => exact go2 _ (j + 1, [] ++ [n]) ⟨hlt2, hnext _ (hx)⟩ (by simp only; omega) (Wkn.to ⟨0, [(2, 1)], [], 2, [0, 1, 2, 7, 8, 9, 10]⟩ rfl rfl (by simp [Wk.st, keepT, memN, Wk.fate, Wk.fate0, assoc, getE, Wk.hp, ABlk.sub, sub1, subs, free_Vo, S_xi, gA, gH, dropG, Eng.setB, subs_append, hfr]))
            | cons w0 wr =>
              have hf0 := fun φ => free_I φ w0
              have hfo := fun φ => free_L φ wr
              exact go2 _ (j + 1, [] ++ [n]) ⟨hlt2, hnext _ (hx)⟩ (by simp only; omega) (Wkn.to ⟨0, [(2, 1), (0, 0)], [], 2, [0, 1, 2, 7, 8, 9, 10]⟩ rfl rfl (by simp [Wk.st, keepT, memN, Wk.fate, Wk.fate0, assoc, getE, Wk.hp, ABlk.sub, sub1, subs, free_Vo, S_xi, gA, gH, dropG, Eng.setB, subs_append, hfr, hf0, hfo]))
            
          | cons x0 xr =>
            simp only [List.map_cons, List.map_nil, subs, List.cons.injEq] at hfr
            simp only [List.length_nil, List.length_cons, Nat.zero_add] at m1 m2
            simp +contextual -implicitDefEqProofs (maxSteps := 2000000) only [S_xi, gA, gH, q1, q3, d1, d2, wN,  List.map_cons, List.map_nil, List.length_map, rs_nil, rs_t, rs_f, ag_nils, ag_sl, ag_vs, ag_str, ag_ptr, ag_nilp, ag_vp, ag_fun, m1, m2, dg_gH, sb_gH, ge_gH, ruB, rh_no, Int.reduceLT, Int.reduceLE, Int.reduceAdd, Int.reduceSub, Int.reduceMul, Int.reduceNeg, Int.reduceToNat, Int.reduceEq, Int.reduceNe, Int.reduceTDiv, Int.reduceTMod, implies_true, putL, appN, appX, appC, Eng.Fi, reduceCtorEq, exists_eq_left', exists_eq_left, if_true, if_false, List.replicate, Nat.reduceAdd, Nat.reduceSub, Nat.reduceMul, Nat.reduceLeDiff, Nat.reduceLT, Nat.reduceEqDiff]
            cases out with
            | nil => exact go2 _ (j + 1, (x0 :: xr) ++ [n]) ⟨hlt2, hnext _ (hx)⟩ (by simp only; omega) (Wkn.to ⟨0, [(2, 1)], [], 2, [0, 1, 2, 7, 8, 9, 10]⟩ rfl rfl (by simp [Wk.st, keepT, memN, Wk.fate, Wk.fate0, assoc, getE, Wk.hp, ABlk.sub, sub1, subs, free_Vo, S_xi, gA, gH, dropG, Eng.setB, subs_append, hfr]))
            | cons w0 wr =>
              have hf0 := fun φ => free_I φ w0
              have hfo := fun φ => free_L φ wr
              exact go2 _ (j + 1, (x0 :: xr) ++ [n]) ⟨hlt2, hnext _ (hx)⟩ (by simp only; omega) (Wkn.to ⟨0, [(2, 1), (0, 0)], [], 2, [0, 1, 2, 7, 8, 9, 10]⟩ rfl rfl (by simp [Wk.st, keepT, memN, Wk.fate, Wk.fate0, assoc, getE, Wk.hp, ABlk.sub, sub1, subs, free_Vo, S_xi, gA, gH, dropG, Eng.setB, subs_append, hfr, hf0, hfo]))
            
      · have d1 : ((i : Int) < (a.length : Int)) = False := eq_false (by omega)
        by_cases c2 : j < b.length
        · have d2 : ((j : Int) < (b.length : Int)) = True := eq_true (by omega)
          have hx := lkE_or (n := n) (i := i) (j := j) (a := a) (b := b) (by omega) (.inr c2)
          cases row with
          | nil =>
            simp only [List.map_cons, List.map_nil, subs, List.cons.injEq] at hfr
            simp only [List.length_nil, List.length_cons, Nat.zero_add] at m1 m2
            simp +contextual -implicitDefEqProofs (maxSteps := 2000000) only [S_xi, gA, gH, q1, q3, d1, d2, wN,  List.map_cons, List.map_nil, List.length_map, rs_nil, rs_t, rs_f, ag_nils, ag_sl, ag_vs, ag_str, ag_ptr, ag_nilp, ag_vp, ag_fun, m1, m2, dg_gH, sb_gH, ge_gH, ruB, rh_no, Int.reduceLT, Int.reduceLE, Int.reduceAdd, Int.reduceSub, Int.reduceMul, Int.reduceNeg, Int.reduceToNat, Int.reduceEq, Int.reduceNe, Int.reduceTDiv, Int.reduceTMod, implies_true, putL, appN, appX, appC, Eng.Fi, reduceCtorEq, exists_eq_left', exists_eq_left, if_true, if_false, List.replicate, Nat.reduceAdd, Nat.reduceSub, Nat.reduceMul, Nat.reduceLeDiff, Nat.reduceLT, Nat.reduceEqDiff]
            cases out with
            | nil => exact go2 _ (j + 1, [] ++ [n]) ⟨hlt2, hnext _ (hx)⟩ (by simp only; omega) (Wkn.to ⟨0, [(2, 1)], [], 2, [0, 1, 2, 7, 8, 9, 10]⟩ rfl rfl (by simp [Wk.st, keepT, memN, Wk.fate, Wk.fate0, assoc, getE, Wk.hp, ABlk.sub, sub1, subs, free_Vo, S_xi, gA, gH, dropG, Eng.setB, subs_append, hfr]))
            | cons w0 wr =>
              have hf0 := fun φ => free_I φ w0
              have hfo := fun φ => free_L φ wr
              exact go2 _ (j + 1, [] ++ [n]) ⟨hlt2, hnext _ (hx)⟩ (by simp only; omega) (Wkn.to ⟨0, [(2, 1), (0, 0)], [], 2, [0, 1, 2, 7, 8, 9, 10]⟩ rfl rfl (by simp [Wk.st, keepT, memN, Wk.fate, Wk.fate0, assoc, getE, Wk.hp, ABlk.sub, sub1, subs, free_Vo, S_xi, gA, gH, dropG, Eng.setB, subs_append, hfr, hf0, hfo]))
            
          | cons x0 xr =>
            simp only [List.map_cons, List.map_nil, subs, List.cons.injEq] at hfr
            simp only [List.length_nil, List.length_cons, Nat.zero_add] at m1 m2
            simp +contextual -implicitDefEqProofs (maxSteps := 2000000) only [S_xi, gA, gH, q1, q3, d1, d2, wN,  List.map_cons, List.map_nil, List.length_map, rs_nil, rs_t, rs_f, ag_nils, ag_sl, ag_vs, ag_str, ag_ptr, ag_nilp, ag_vp, ag_fun, m1, m2, dg_gH, sb_gH, ge_gH, ruB, rh_no, Int.reduceLT, Int.reduceLE, Int.reduceAdd, Int.reduceSub, Int.reduceMul, Int.reduceNeg, Int.reduceToNat, Int.reduceEq, Int.reduceNe, Int.reduceTDiv, Int.reduceTMod, implies_true, putL, appN, appX, appC, Eng.Fi, reduceCtorEq, exists_eq_left', exists_eq_left, if_true, if_false, List.replicate, Nat.reduceAdd, Nat.reduceSub, Nat.reduceMul, Nat.reduceLeDiff, Nat.reduceLT, Nat.reduceEqDiff]
            cases out with
            | nil => exact go2 _ (j + 1, (x0 :: xr) ++ [n]) ⟨hlt2, hnext _ (hx)⟩ (by simp only; omega) (Wkn.to ⟨0, [(2, 1)], [], 2, [0, 1, 2, 7, 8, 9, 10]⟩ rfl rfl (by simp [Wk.st, keepT, memN, Wk.fate, Wk.fate0, assoc, getE, Wk.hp, ABlk.sub, sub1, subs, free_Vo, S_xi, gA, gH, dropG, Eng.setB, subs_append, hfr]))
            | cons w0 wr =>
              have hf0 := fun φ => free_I φ w0
              have hfo := fun φ => free_L φ wr
              exact go2 _ (j + 1, (x0 :: xr) ++ [n]) ⟨hlt2, hnext _ (hx)⟩ (by simp only; omega) (Wkn.to ⟨0, [(2, 1), (0, 0)], [], 2, [0, 1, 2, 7, 8, 9, 10]⟩ rfl rfl (by simp [Wk.st, keepT, memN, Wk.fate, Wk.fate0, assoc, getE, Wk.hp, ABlk.sub, sub1, subs, free_Vo, S_xi, gA, gH, dropG, Eng.setB, subs_append, hfr, hf0, hfo]))
            
        · have d2 : ((j : Int) < (b.length : Int)) = False := eq_false (by omega)
          have hx := lkE_ff (n := n) (i := i) (j := j) (a := a) (b := b) (by omega) (by omega)
          cases row with
          | nil =>
            simp only [List.map_cons, List.map_nil, subs, List.cons.injEq] at hfr
            simp only [List.length_nil, List.length_cons, Nat.zero_add] at m1 m2
            simp +contextual -implicitDefEqProofs (maxSteps := 2000000) only [S_xi, gA, gH, q1, q3, d1, d2, wN, Int.natCast_zero, List.map_cons, List.map_nil, List.length_map, rs_nil, rs_t, rs_f, ag_nils, ag_sl, ag_vs, ag_str, ag_ptr, ag_nilp, ag_vp, ag_fun, m1, m2, dg_gH, sb_gH, ge_gH, ruB, rh_no, Int.reduceLT, Int.reduceLE, Int.reduceAdd, Int.reduceSub, Int.reduceMul, Int.reduceNeg, Int.reduceToNat, Int.reduceEq, Int.reduceNe, Int.reduceTDiv, Int.reduceTMod, implies_true, putL, appN, appX, appC, Eng.Fi, reduceCtorEq, exists_eq_left', exists_eq_left, if_true, if_false, List.replicate, Nat.reduceAdd, Nat.reduceSub, Nat.reduceMul, Nat.reduceLeDiff, Nat.reduceLT, Nat.reduceEqDiff]
            cases out with
            | nil => exact go2 _ (j + 1, [] ++ [0]) ⟨hlt2, hnext _ (hx)⟩ (by simp only; omega) (Wkn.to ⟨0, [(2, 1)], [], 2, [0, 1, 2, 7, 8, 9, 10]⟩ rfl rfl (by simp [Wk.st, keepT, memN, Wk.fate, Wk.fate0, assoc, getE, Wk.hp, ABlk.sub, sub1, subs, free_Vo, S_xi, gA, gH, dropG, Eng.setB, subs_append, hfr]))
            | cons w0 wr =>
              have hf0 := fun φ => free_I φ w0
              have hfo := fun φ => free_L φ wr
              exact go2 _ (j + 1, [] ++ [0]) ⟨hlt2, hnext _ (hx)⟩ (by simp only; omega) (Wkn.to ⟨0, [(2, 1), (0, 0)], [], 2, [0, 1, 2, 7, 8, 9, 10]⟩ rfl rfl (by simp [Wk.st, keepT, memN, Wk.fate, Wk.fate0, assoc, getE, Wk.hp, ABlk.sub, sub1, subs, free_Vo, S_xi, gA, gH, dropG, Eng.setB, subs_append, hfr, hf0, hfo]))
            
          | cons x0 xr =>
            simp only [List.map_cons, List.map_nil, subs, List.cons.injEq] at hfr
            simp only [List.length_nil, List.length_cons, Nat.zero_add] at m1 m2
            simp +contextual -implicitDefEqProofs (maxSteps := 2000000) only [S_xi, gA, gH, q1, q3, d1, d2, wN, Int.natCast_zero, List.map_cons, List.map_nil, List.length_map, rs_nil, rs_t, rs_f, ag_nils, ag_sl, ag_vs, ag_str, ag_ptr, ag_nilp, ag_vp, ag_fun, m1, m2, dg_gH, sb_gH, ge_gH, ruB, rh_no, Int.reduceLT, Int.reduceLE, Int.reduceAdd, Int.reduceSub, Int.reduceMul, Int.reduceNeg, Int.reduceToNat, Int.reduceEq, Int.reduceNe, Int.reduceTDiv, Int.reduceTMod, implies_true, putL, appN, appX, appC, Eng.Fi, reduceCtorEq, exists_eq_left', exists_eq_left, if_true, if_false, List.replicate, Nat.reduceAdd, Nat.reduceSub, Nat.reduceMul, Nat.reduceLeDiff, Nat.reduceLT, Nat.reduceEqDiff]
            cases out with
            | nil => exact go2 _ (j + 1, (x0 :: xr) ++ [0]) ⟨hlt2, hnext _ (hx)⟩ (by simp only; omega) (Wkn.to ⟨0, [(2, 1)], [], 2, [0, 1, 2, 7, 8, 9, 10]⟩ rfl rfl (by simp [Wk.st, keepT, memN, Wk.fate, Wk.fate0, assoc, getE, Wk.hp, ABlk.sub, sub1, subs, free_Vo, S_xi, gA, gH, dropG, Eng.setB, subs_append, hfr]))
            | cons w0 wr =>
              have hf0 := fun φ => free_I φ w0
              have hfo := fun φ => free_L φ wr
              exact go2 _ (j + 1, (x0 :: xr) ++ [0]) ⟨hlt2, hnext _ (hx)⟩ (by simp only; omega) (Wkn.to ⟨0, [(2, 1), (0, 0)], [], 2, [0, 1, 2, 7, 8, 9, 10]⟩ rfl rfl (by simp [Wk.st, keepT, memN, Wk.fate, Wk.fate0, assoc, getE, Wk.hp, ABlk.sub, sub1, subs, free_Vo, S_xi, gA, gH, dropG, Eng.setB, subs_append, hfr, hf0, hfo]))
            
    · have q1 : ((j : Int) < ((a.length + b.length : Nat) : Int)) = False := eq_false (by omega)
      have hjn : j = a.length + b.length := by omega
      have m1 : (out.length + 1 ≤ maxLen) = True := mx (by omega)
      have m2 : ((out.length + 1) * 24 ≤ 140737488355328) = True := by simp only [eq_iff_iff, iff_true]; omega
      have hfr := fun φ => free_I φ row
      have hfo := fun φ => free_L φ out
      have hnext : out ++ [row] = lkM a b n (a.length + b.length) (i + 1) := by rw [lkM_s, hout, hrow, hjn]
      have hr0 : row ≠ [] := fun e => by rw [e] at hrl; simp at hrl; omega
      have t2 : ∀ r : L, (r.map eI).take r.length = r.map eI := fun r => by rw [List.take_of_length_le]; simp
      cases row with
      | nil => exact absurd rfl hr0
      | cons x row =>
        simp only [List.map_cons, List.map_nil, subs, List.cons.injEq] at hfr
        clear go2 hrow hrl hr0
        cases out with
        | nil =>
          have tz : (row.map eI).take row.length = row.map eI := t2 row
          simp only [List.map_cons, List.map_nil, subs, List.cons.injEq] at hfo
          simp only [List.length_nil, List.length_cons, Nat.zero_add] at m1 m2
          simp +contextual -implicitDefEqProofs (maxSteps := 2000000) only [S_xi, gA, gH, q1, e3, wN, List.map_cons, List.map_nil, List.length_map, rs_nil, rs_t, rs_f, ag_nils, ag_sl, ag_vs, ag_str, ag_ptr, ag_nilp, ag_vp, ag_fun, m1, m2, ruB, rh_no, Int.reduceLT, Int.reduceLE, Int.reduceAdd, Int.reduceSub, Int.reduceMul, Int.reduceNeg, Int.reduceToNat, Int.reduceEq, Int.reduceNe, Int.reduceTDiv, Int.reduceTMod, implies_true, putL, appN, appX, appC, Eng.Fi, reduceCtorEq, exists_eq_left', exists_eq_left, if_true, if_false, List.replicate, Nat.reduceAdd, Nat.reduceSub, Nat.reduceMul, Nat.reduceLeDiff, Nat.reduceLT, Nat.reduceEqDiff]
          exact go _ (i + 1, [] ++ [x :: row]) ⟨hlt, hnext⟩ (by simp only; omega) (Wkn.to ⟨0, [(2, 0)], [1], 1, [0, 1, 2, 7, 8]⟩ rfl rfl (by simp [Wk.st, keepT, memN, Wk.fate, Wk.fate0, assoc, getE, Wk.hp, ABlk.sub, sub1, subs, free_Vo, S_xo, gA, gH, hfr, hfo, subs_append, tz, free_I]))
          
        | cons z0 zr =>
          have tz : (row.map eI).take row.length = row.map eI := t2 row
          simp only [List.map_cons, List.map_nil, subs, List.cons.injEq] at hfo
          simp only [List.length_nil, List.length_cons, Nat.zero_add] at m1 m2
          simp +contextual -implicitDefEqProofs (maxSteps := 2000000) only [S_xi, gA, gH, q1, e3, wN, List.map_cons, List.map_nil, List.length_map, rs_nil, rs_t, rs_f, ag_nils, ag_sl, ag_vs, ag_str, ag_ptr, ag_nilp, ag_vp, ag_fun, m1, m2, ruB, rh_no, Int.reduceLT, Int.reduceLE, Int.reduceAdd, Int.reduceSub, Int.reduceMul, Int.reduceNeg, Int.reduceToNat, Int.reduceEq, Int.reduceNe, Int.reduceTDiv, Int.reduceTMod, implies_true, putL, appN, appX, appC, Eng.Fi, reduceCtorEq, exists_eq_left', exists_eq_left, if_true, if_false, List.replicate, Nat.reduceAdd, Nat.reduceSub, Nat.reduceMul, Nat.reduceLeDiff, Nat.reduceLT, Nat.reduceEqDiff]
          exact go _ (i + 1, (z0 :: zr) ++ [x :: row]) ⟨hlt, hnext⟩ (by simp only; omega) (Wkn.to ⟨0, [(2, 0)], [1], 1, [0, 1, 2, 7, 8]⟩ rfl rfl (by simp [Wk.st, keepT, memN, Wk.fate, Wk.fate0, assoc, getE, Wk.hp, ABlk.sub, sub1, subs, free_Vo, S_xo, gA, gH, hfr, hfo, subs_append, tz, free_I]))
          
  · have e1 : ((i : Int) < ((a.length + b.length : Nat) : Int)) = False := eq_false (by omega)
    have hin : i = a.length + b.length := by omega
    have hfo := fun φ => free_L φ out
    rw [lkL, ← hin]
    rw [← hin] at hout
    rw [← hout]
    have t2 : ∀ r : List L, (r.map eL).take r.length = r.map eL := fun r => by rw [List.take_of_length_le]; simp
    cases out with
    | nil =>
      simp only [List.map_cons, List.map_nil, subs, List.cons.injEq] at hfo
      simp +contextual -implicitDefEqProofs (maxSteps := 2000000) only [S_xo, gA, gH, e1, wN, List.map_nil, List.map_cons, List.length_map, t2, Nat.le_refl, hfo, ruB, rh_no, Int.reduceLT, Int.reduceLE, Int.reduceAdd, Int.reduceSub, Int.reduceMul, Int.reduceNeg, Int.reduceToNat, Int.reduceEq, Int.reduceNe, Int.reduceTDiv, Int.reduceTMod, implies_true, putL, appN, appX, appC, Eng.Fi, reduceCtorEq, exists_eq_left', exists_eq_left, if_true, if_false, List.replicate, Nat.reduceAdd, Nat.reduceSub, Nat.reduceMul, Nat.reduceLeDiff, Nat.reduceLT, Nat.reduceEqDiff]
      
    | cons x0 r0 =>
      simp only [List.map_cons, List.map_nil, subs, List.cons.injEq] at hfo
      simp +contextual -implicitDefEqProofs (maxSteps := 2000000) only [S_xo, gA, gH, e1, wN, List.map_nil, List.map_cons, List.length_map, t2, Nat.le_refl, hfo, ruB, rh_no, Int.reduceLT, Int.reduceLE, Int.reduceAdd, Int.reduceSub, Int.reduceMul, Int.reduceNeg, Int.reduceToNat, Int.reduceEq, Int.reduceNe, Int.reduceTDiv, Int.reduceTMod, implies_true, putL, appN, appX, appC, Eng.Fi, reduceCtorEq, exists_eq_left', exists_eq_left, if_true, if_false, List.replicate, Nat.reduceAdd, Nat.reduceSub, Nat.reduceMul, Nat.reduceLeDiff, Nat.reduceLT, Nat.reduceEqDiff]
      
def cf_rCosts : List AV → Option AV
  | [.vs a_v, .vs b_v, .int .i64 n] => onL dVo a_v fun a => onL dVo b_v fun b => if olE a b n = 0 then some (.vs ((lkL a b n).map eL)) else none
  | _ => none
theorem g_rCosts : Fn P 44 cf_rCosts := fun args v hh => by
  unfold cf_rCosts at hh; split at hh
  · obtain ⟨a, rfl, hh1⟩ := onL_inv dVo_inv hh
    obtain ⟨b, rfl, hh2⟩ := onL_inv dVo_inv hh1
    split at hh2
    · rename_i hc; have hk := Option.some.inj hh2; subst hk; exact k_rCosts _ _ _ hc
    · cases hh2
  · cases hh
theorem x_rCosts (a : List Vo) (b : List Vo) (n : Int) (hc : (olE a b n = 0) = True) : cf_rCosts [.vs (a.map eVo), .vs (b.map eVo), .int .i64 n] = some (.vs ((lkL a b n).map eL)) := by
  simp only [cf_rCosts, onL_map dVo_e]
  exact if_pos (by rw [hc]; trivial)
end Wa
