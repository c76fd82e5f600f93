import Derived.Test.YtabkbhpeeefmgaaEngS9
import Derived.Test.YtabkbhpeeefmgaaW914
open Go Go.Proofs Eng
set_option maxRecDepth 100000
set_option linter.unusedSimpArgs false
set_option linter.unusedVariables false
def a52 : AC := .seq (.ops false [] [⟨some 1, .box 102 10 1 true, [.t 0], none⟩, ⟨some 2, .p (.mov), [.c (.int .i64 0)], none⟩]) (.seq (.seq (.ops false [] [⟨some 7, .p (.faddr 0), [.t 1], none⟩, ⟨some 8, .load 2 true, [.t 7], none⟩, ⟨some 9, .call 118, [.t 8, .c (.int .i64 (-1000))], none⟩, ⟨some 3, .p (.mov), [.t 9], none⟩]) (.seq (.ops false [] [⟨some 10, .p (.mov), [.t 3], none⟩, ⟨some 11, .p (.binI .neq), [.t 10, .c (.int .i64 0)], none⟩]) (.cond (.t 11) (.seq (.ops false [] [⟨some 12, .p (.mov), [.t 3], none⟩, ⟨some 2, .p (.mov), [.t 12], none⟩]) (.ret)) (.skip)))) (.seq (.seq (.ops false [] [⟨some 13, .p (.faddr 2), [.t 1], none⟩, ⟨some 14, .load 2 true, [.t 13], none⟩, ⟨some 15, .call 118, [.t 14, .c (.int .i64 0)], none⟩, ⟨some 4, .p (.mov), [.t 15], none⟩]) (.seq (.ops false [] [⟨some 16, .p (.mov), [.t 4], none⟩, ⟨some 17, .p (.binI .neq), [.t 16, .c (.int .i64 0)], none⟩]) (.cond (.t 17) (.seq (.ops false [] [⟨some 18, .p (.mov), [.t 4], none⟩, ⟨some 2, .p (.mov), [.t 18], none⟩]) (.ret)) (.skip)))) (.seq (.seq (.ops false [] [⟨some 19, .p (.faddr 4), [.t 1], none⟩, ⟨some 20, .load 1 false, [.t 19], none⟩, ⟨some 21, .call 20, [.t 20, .c (.int .i64 1), .c (.int .i64 100)], none⟩, ⟨some 22, .p (.notB), [.t 21], none⟩]) (.cond (.t 22) (.seq (.ops false [] [⟨some 2, .p (.mov), [.c (.int .i64 2)], none⟩]) (.ret)) (.skip))) (.seq (.seq (.ops false [] [⟨some 23, .p (.faddr 5), [.t 1], none⟩, ⟨some 24, .load 1 false, [.t 23], none⟩, ⟨some 25, .p (.lenS), [.t 24], none⟩, ⟨some 26, .p (.binI .eql), [.t 25, .c (.int .i64 0)], none⟩]) (.cond (.t 26) (.seq (.ops false [] [⟨some 2, .p (.mov), [.c (.int .i64 10)], none⟩]) (.ret)) (.skip))) (.seq (.seq (.ops false [] [⟨some 27, .p (.faddr 5), [.t 1], none⟩, ⟨some 28, .load 1 false, [.t 27], none⟩, ⟨some 29, .p (.lenS), [.t 28], none⟩, ⟨some 30, .p (.binI .gtr), [.t 29, .c (.int .i64 6)], none⟩]) (.cond (.t 30) (.seq (.ops false [] [⟨some 2, .p (.mov), [.c (.int .i64 8)], none⟩]) (.ret)) (.skip))) (.seq (.seq (.ops false [] [⟨some 5, .p (.mov), [.c (.int .i64 0)], none⟩]) (.block 0 (.loop (.seq (.seq (.ops false [] [⟨some 31, .p (.mov), [.t 5], none⟩, ⟨some 32, .p (.faddr 5), [.t 1], none⟩, ⟨some 33, .load 1 false, [.t 32], none⟩, ⟨some 34, .p (.lenS), [.t 33], none⟩, ⟨some 35, .p (.binI .lss), [.t 31, .t 34], none⟩]) (.cond (.t 35) (.skip) (.exit 0))) (.seq (.block 1 (.seq (.seq (.ops false [] [⟨some 38, .p (.faddr 5), [.t 1], none⟩, ⟨some 39, .load 1 false, [.t 38], none⟩, ⟨some 40, .p (.mov), [.t 5], none⟩, ⟨some 41, .p (.iaddrS 1), [.t 39, .t 40], none⟩, ⟨some 42, .load 1 false, [.t 41], none⟩, ⟨some 43, .call 20, [.t 42, .c (.int .i64 1), .c (.int .i64 10000)], none⟩, ⟨some 44, .p (.notB), [.t 43], none⟩]) (.cond (.t 44) (.seq (.ops false [] [⟨some 2, .p (.mov), [.c (.int .i64 2)], none⟩]) (.ret)) (.skip))) (.seq (.ops true [] [⟨some 45, .p (.mov), [.t 5], none⟩, ⟨some 46, .p (.binI .gtr), [.t 45, .c (.int .i64 0)], none⟩, ⟨some 47, .p (.mov), [.t 46], none⟩, ⟨some 48, .p (.faddr 5), [.t 1], some (47, true)⟩, ⟨some 49, .load 1 false, [.t 48], some (47, true)⟩, ⟨some 50, .p (.mov), [.t 5], some (47, true)⟩, ⟨some 51, .p (.iaddrS 1), [.t 49, .t 50], some (47, true)⟩, ⟨some 52, .load 1 false, [.t 51], some (47, true)⟩, ⟨some 53, .p (.faddr 5), [.t 1], some (47, true)⟩, ⟨some 54, .load 1 false, [.t 53], some (47, true)⟩, ⟨some 55, .p (.mov), [.t 5], some (47, true)⟩, ⟨some 56, .p (.binI .sub), [.t 55, .c (.int .i64 1)], some (47, true)⟩, ⟨some 57, .p (.iaddrS 1), [.t 54, .t 56], some (47, true)⟩, ⟨some 58, .load 1 false, [.t 57], some (47, true)⟩, ⟨some 59, .p (.binI .leq), [.t 52, .t 58], some (47, true)⟩, ⟨some 60, .p (.pick), [.t 47, .t 59, .c (.bool false)], none⟩]) (.cond (.t 60) (.seq (.ops false [] [⟨some 2, .p (.mov), [.c (.int .i64 9)], none⟩]) (.ret)) (.skip))))) (.ops false [] [⟨some 36, .p (.mov), [.t 5], none⟩, ⟨some 37, .p (.binI .add), [.t 36, .c (.int .i64 1)], none⟩, ⟨some 5, .p (.mov), [.t 37], none⟩])))))) (.seq (.seq (.ops false [] [⟨some 61, .p (.faddr 6), [.t 1], none⟩, ⟨some 62, .load 3 true, [.t 61], none⟩, ⟨some 63, .call 47, [.t 62], none⟩, ⟨some 6, .p (.mov), [.t 63], none⟩]) (.seq (.ops false [] [⟨some 64, .p (.mov), [.t 6], none⟩, ⟨some 65, .p (.binI .neq), [.t 64, .c (.int .i64 0)], none⟩]) (.cond (.t 65) (.seq (.ops false [] [⟨some 66, .p (.mov), [.t 6], none⟩, ⟨some 2, .p (.mov), [.t 66], none⟩]) (.ret)) (.skip)))) (.seq (.ops false [] [⟨some 67, .p (.faddr 9), [.t 1], none⟩, ⟨some 68, .load 1 false, [.t 67], none⟩, ⟨some 69, .call 119, [.t 68], none⟩, ⟨some 2, .p (.mov), [.t 69], none⟩]) (.ret)))))))))
theorem c52 : FnC Try.prog 52 70 a52 [.tmp 2] := ⟨Try.call52, _, _, Try.func52, rfl, by kernel_rfl, by kernel_rfl, rfl⟩
def a59 : AC := .seq (.ops false [] [⟨some 1, .box 108 4 1 true, [.t 0], none⟩, ⟨some 2, .p (.mov), [.c (.int .i64 0)], none⟩]) (.seq (.seq (.ops false [] [⟨some 4, .p (.faddr 0), [.t 1], none⟩, ⟨some 5, .load 2 true, [.t 4], none⟩, ⟨some 6, .call 48, [.t 5], none⟩, ⟨some 3, .p (.mov), [.t 6], none⟩]) (.seq (.ops false [] [⟨some 7, .p (.mov), [.t 3], none⟩, ⟨some 8, .p (.binI .neq), [.t 7, .c (.int .i64 0)], none⟩]) (.cond (.t 8) (.seq (.ops false [] [⟨some 9, .p (.mov), [.t 3], none⟩, ⟨some 2, .p (.mov), [.t 9], none⟩]) (.ret)) (.skip)))) (.seq (.seq (.ops false [] [⟨some 10, .p (.faddr 2), [.t 1], none⟩, ⟨some 11, .load 1 false, [.t 10], none⟩, ⟨some 12, .call 20, [.t 11, .c (.int .i64 1), .c (.int .i64 100)], none⟩, ⟨some 13, .p (.notB), [.t 12], none⟩, ⟨some 14, .p (.mov), [.t 13], none⟩, ⟨some 15, .p (.faddr 3), [.t 1], some (14, false)⟩, ⟨some 16, .load 1 false, [.t 15], some (14, false)⟩, ⟨some 17, .call 20, [.t 16, .c (.int .i64 1), .c (.int .i64 10000)], some (14, false)⟩, ⟨some 18, .p (.notB), [.t 17], some (14, false)⟩, ⟨some 19, .p (.pick), [.t 14, .c (.bool true), .t 18], none⟩]) (.cond (.t 19) (.seq (.ops false [] [⟨some 2, .p (.mov), [.c (.int .i64 2)], none⟩]) (.ret)) (.skip))) (.seq (.ops false [] [⟨some 2, .p (.mov), [.c (.int .i64 0)], none⟩]) (.ret))))
theorem c59 : FnC Try.prog 59 20 a59 [.tmp 2] := ⟨Try.call59, _, _, Try.func59, rfl, by kernel_rfl, by kernel_rfl, rfl⟩
def a118 : AC := .seq (.ops false [] [⟨some 2, .box 48 2 1 true, [.t 0], none⟩, ⟨some 4, .p (.mov), [.c (.int .i64 0)], none⟩]) (.seq (.seq (.ops false [] [⟨some 5, .p (.faddr 0), [.t 2], none⟩, ⟨some 6, .load 1 false, [.t 5], none⟩, ⟨some 7, .p (.mov), [.t 1], none⟩, ⟨some 8, .call 20, [.t 6, .t 7, .c (.int .i64 1000)], none⟩, ⟨some 9, .p (.notB), [.t 8], none⟩, ⟨some 10, .p (.mov), [.t 9], none⟩, ⟨some 11, .p (.faddr 1), [.t 2], some (10, false)⟩, ⟨some 12, .load 1 false, [.t 11], some (10, false)⟩, ⟨some 13, .p (.mov), [.t 1], some (10, false)⟩, ⟨some 14, .call 20, [.t 12, .t 13, .c (.int .i64 1000)], some (10, false)⟩, ⟨some 15, .p (.notB), [.t 14], some (10, false)⟩, ⟨some 16, .p (.pick), [.t 10, .c (.bool true), .t 15], none⟩]) (.cond (.t 16) (.seq (.ops false [] [⟨some 4, .p (.mov), [.c (.int .i64 2)], none⟩]) (.ret)) (.skip))) (.seq (.seq (.ops false [] [⟨some 17, .p (.faddr 0), [.t 2], none⟩, ⟨some 18, .load 1 false, [.t 17], none⟩, ⟨some 19, .p (.faddr 1), [.t 2], none⟩, ⟨some 20, .load 1 false, [.t 19], none⟩, ⟨some 21, .p (.binI .gtr), [.t 18, .t 20], none⟩]) (.cond (.t 21) (.seq (.ops false [] [⟨some 4, .p (.mov), [.c (.int .i64 9)], none⟩]) (.ret)) (.skip))) (.seq (.seq (.ops false [] [⟨some 22, .p (.faddr 1), [.t 2], none⟩, ⟨some 23, .load 1 false, [.t 22], none⟩, ⟨some 24, .p (.faddr 0), [.t 2], none⟩, ⟨some 25, .load 1 false, [.t 24], none⟩, ⟨some 26, .p (.binI .sub), [.t 23, .t 25], none⟩, ⟨some 27, .p (.binI .gtr), [.t 26, .c (.int .i64 12)], none⟩]) (.cond (.t 27) (.seq (.ops false [] [⟨some 4, .p (.mov), [.c (.int .i64 8)], none⟩]) (.ret)) (.skip))) (.seq (.ops false [] [⟨some 4, .p (.mov), [.c (.int .i64 0)], none⟩]) (.ret)))))
theorem c118 : FnC Try.prog 118 28 a118 [.tmp 4] := ⟨Try.call118, _, _, Try.func118, rfl, by kernel_rfl, by kernel_rfl, rfl⟩
def a119 : AC := .seq (.ops false [] [⟨some 2, .p (.mov), [.c (.int .i64 0)], none⟩]) (.seq (.seq (.ops false [] [⟨some 5, .p (.mov), [.t 0], none⟩, ⟨some 6, .p (.lenS), [.t 5], none⟩, ⟨some 7, .p (.binI .gtr), [.t 6, .c (.int .i64 12)], none⟩]) (.cond (.t 7) (.seq (.ops false [] [⟨some 2, .p (.mov), [.c (.int .i64 8)], none⟩]) (.ret)) (.skip))) (.seq (.seq (.ops false [] [⟨some 3, .p (.mov), [.c (.int .i64 0)], none⟩]) (.block 0 (.loop (.seq (.seq (.ops false [] [⟨some 8, .p (.mov), [.t 3], none⟩, ⟨some 9, .p (.mov), [.t 0], none⟩, ⟨some 10, .p (.lenS), [.t 9], none⟩, ⟨some 11, .p (.binI .lss), [.t 8, .t 10], none⟩]) (.cond (.t 11) (.skip) (.exit 0))) (.seq (.block 1 (.seq (.seq (.ops false [] [⟨some 14, .p (.mov), [.t 0], none⟩, ⟨some 15, .p (.mov), [.t 3], none⟩, ⟨some 16, .p (.iaddrS 3), [.t 14, .t 15], none⟩, ⟨some 17, .p (.faddr 0), [.t 16], none⟩, ⟨some 18, .load 2 true, [.t 17], none⟩, ⟨some 19, .call 48, [.t 18], none⟩, ⟨some 4, .p (.mov), [.t 19], none⟩]) (.seq (.ops false [] [⟨some 20, .p (.mov), [.t 4], none⟩, ⟨some 21, .p (.binI .neq), [.t 20, .c (.int .i64 0)], none⟩]) (.cond (.t 21) (.seq (.ops false [] [⟨some 22, .p (.mov), [.t 4], none⟩, ⟨some 2, .p (.mov), [.t 22], none⟩]) (.ret)) (.skip)))) (.seq (.ops false [] [⟨some 23, .p (.mov), [.t 0], none⟩, ⟨some 24, .p (.mov), [.t 3], none⟩, ⟨some 25, .p (.iaddrS 3), [.t 23, .t 24], none⟩, ⟨some 26, .p (.faddr 2), [.t 25], none⟩, ⟨some 27, .load 1 false, [.t 26], none⟩, ⟨some 28, .call 20, [.t 27, .c (.int .i64 (-1000000000)), .c (.int .i64 1000000000)], none⟩, ⟨some 29, .p (.notB), [.t 28], none⟩]) (.cond (.t 29) (.seq (.ops false [] [⟨some 2, .p (.mov), [.c (.int .i64 2)], none⟩]) (.ret)) (.skip))))) (.ops false [] [⟨some 12, .p (.mov), [.t 3], none⟩, ⟨some 13, .p (.binI .add), [.t 12, .c (.int .i64 1)], none⟩, ⟨some 3, .p (.mov), [.t 13], none⟩])))))) (.seq (.ops false [] [⟨some 2, .p (.mov), [.c (.int .i64 0)], none⟩]) (.ret))))
theorem c119 : FnC Try.prog 119 30 a119 [.tmp 2] := ⟨Try.call119, _, _, Try.func119, rfl, by kernel_rfl, by kernel_rfl, rfl⟩
namespace Wa
theorem k_rPairErr (p : Pa) : FOk P 59 [ePa p] (I (paE p)) := by
  have y1 := x_rPointErr ⟨p.y, p.z⟩
  rw [paE]
  by_cases h1 : ptE ⟨p.y, p.z⟩ = 0
  · rw [h1, fE0, firstE_one]
    rw [h1] at y1
    by_cases h2 : 1 ≤ p.h ∧ p.h ≤ 100
    · have h2' := eq_true h2
      by_cases h3 : 1 ≤ p.s ∧ p.s ≤ 10000
      · have h3' := eq_true h3
        rw [unl_t 2 ⟨h2, h3⟩]
        refine c59.fok rfl (Cor.run (addC_good g_rPointErr (addC_good g_Within (noC_good _))) (noHx_good _) hm ?_)
        simp +contextual -implicitDefEqProofs (maxSteps := 2000000) only [bg_eq, a59, x_Within, y1, h2', h3', not_true_eq_false, not_false_eq_true, ruB, rh_no, Int.reduceLT, Int.reduceLE, Int.reduceAdd, Int.reduceSub, Int.reduceMul, Int.reduceNeg, Int.reduceToNat, Int.reduceEq, Int.reduceNe, Int.reduceTDiv, Int.reduceTMod, implies_true, putL, appN, appX, appC, Eng.Fi, reduceCtorEq, exists_eq_left', exists_eq_left, if_true, if_false, List.replicate, Nat.reduceAdd, Nat.reduceSub, Nat.reduceMul, Nat.reduceLeDiff, Nat.reduceLT, Nat.reduceEqDiff]
      · have h3' := eq_false h3
        rw [unl_f 2 (fun q => h3 q.2)]
        refine c59.fok rfl (Cor.run (addC_good g_rPointErr (addC_good g_Within (noC_good _))) (noHx_good _) hm ?_)
        simp +contextual -implicitDefEqProofs (maxSteps := 2000000) only [bg_eq, a59, x_Within, y1, h2', h3', not_true_eq_false, not_false_eq_true, ruB, rh_no, Int.reduceLT, Int.reduceLE, Int.reduceAdd, Int.reduceSub, Int.reduceMul, Int.reduceNeg, Int.reduceToNat, Int.reduceEq, Int.reduceNe, Int.reduceTDiv, Int.reduceTMod, implies_true, putL, appN, appX, appC, Eng.Fi, reduceCtorEq, exists_eq_left', exists_eq_left, if_true, if_false, List.replicate, Nat.reduceAdd, Nat.reduceSub, Nat.reduceMul, Nat.reduceLeDiff, Nat.reduceLT, Nat.reduceEqDiff]
    · have h2' := eq_false h2
      rw [unl_f 2 (fun q => h2 q.1)]
      refine c59.fok rfl (Cor.run (addC_good g_rPointErr (addC_good g_Within (noC_good _))) (noHx_good _) hm ?_)
      simp +contextual -implicitDefEqProofs (maxSteps := 2000000) only [bg_eq, a59, x_Within, y1, h2', not_true_eq_false, not_false_eq_true, ruB, rh_no, Int.reduceLT, Int.reduceLE, Int.reduceAdd, Int.reduceSub, Int.reduceMul, Int.reduceNeg, Int.reduceToNat, Int.reduceEq, Int.reduceNe, Int.reduceTDiv, Int.reduceTMod, implies_true, putL, appN, appX, appC, Eng.Fi, reduceCtorEq, exists_eq_left', exists_eq_left, if_true, if_false, List.replicate, Nat.reduceAdd, Nat.reduceSub, Nat.reduceMul, Nat.reduceLeDiff, Nat.reduceLT, Nat.reduceEqDiff]
  · have h1' := eq_false h1
    rw [fE1 h1]
    refine c59.fok rfl (Cor.run (addC_good g_rPointErr (addC_good g_Within (noC_good _))) (noHx_good _) hm ?_)
    simp +contextual -implicitDefEqProofs (maxSteps := 2000000) only [bg_eq, a59, y1, h1', not_true_eq_false, not_false_eq_true, ruB, rh_no, Int.reduceLT, Int.reduceLE, Int.reduceAdd, Int.reduceSub, Int.reduceMul, Int.reduceNeg, Int.reduceToNat, Int.reduceEq, Int.reduceNe, Int.reduceTDiv, Int.reduceTMod, implies_true, putL, appN, appX, appC, Eng.Fi, reduceCtorEq, exists_eq_left', exists_eq_left, if_true, if_false, List.replicate, Nat.reduceAdd, Nat.reduceSub, Nat.reduceMul, Nat.reduceLeDiff, Nat.reduceLT, Nat.reduceEqDiff]
def cf_rPairErr : List AV → Option AV
  | [.agg [.int .i64 p_y, .int .i64 p_z, .int .i64 p_h, .int .i64 p_s]] => some (I (paE (⟨p_y, p_z, p_h, p_s⟩ : Pa)))
  | _ => none
theorem g_rPairErr : Fn P 59 cf_rPairErr := fun args v hh => by
  unfold cf_rPairErr at hh; split at hh
  · have hk := Option.some.inj hh; subst hk; exact k_rPairErr ⟨_, _, _, _⟩
  · cases hh
theorem x_rPairErr (p : Pa) : cf_rPairErr [.agg [I p.y, I p.z, I p.h, I p.s]] = some (I (paE p)) := by
  rfl
def inL (lo a : Int) : Prop := lo ≤ a ∧ a ≤ 1000
instance (lo a : Int) : Decidable (inL lo a) := by unfold inL; infer_instance
theorem k_rsideErr (a b lo : Int) (hlo : -1000 ≤ lo ∧ lo ≤ 1000) : FOk P 118 [eRn ⟨a, b⟩, I lo] (I (arG (inL lo a ∧ inL lo b) a b)) := by
  rw [arG]
  by_cases h1 : inL lo a
  · have h1' := eq_true h1
    unfold inL at h1'
    by_cases h2 : inL lo b
    · have h2' := eq_true h2
      unfold inL at h2'
      rw [unl_t 2 ⟨h1, h2⟩, fE0, firstE_one]
      unfold inL at h1 h2
      have w : IntKind.wrap .i64 (b - a) = b - a := wrap64 (by omega) (by omega)
      by_cases h3 : a ≤ b
      · have h3' : (b < a) = False := eq_false (by omega)
        rw [unl_t 9 h3, if_pos rfl]
        by_cases h4 : b - a ≤ 12
        · have h4' : (12 < b - a) = False := eq_false (by omega)
          rw [unl_t 8 h4]
          refine c118.fok rfl (Cor.run (addC_good g_Within (noC_good _)) (noHx_good _) hm ?_)
          simp +contextual -implicitDefEqProofs (maxSteps := 2000000) only [bg_eq, a118, x_Within, w, h1', h2', h3', h4', not_true_eq_false, not_false_eq_true, ruB, rh_no, Int.reduceLT, Int.reduceLE, Int.reduceAdd, Int.reduceSub, Int.reduceMul, Int.reduceNeg, Int.reduceToNat, Int.reduceEq, Int.reduceNe, Int.reduceTDiv, Int.reduceTMod, implies_true, putL, appN, appX, appC, Eng.Fi, reduceCtorEq, exists_eq_left', exists_eq_left, if_true, if_false, List.replicate, Nat.reduceAdd, Nat.reduceSub, Nat.reduceMul, Nat.reduceLeDiff, Nat.reduceLT, Nat.reduceEqDiff]
        · have h4' : (12 < b - a) = True := eq_true (by omega)
          rw [unl_f 8 h4]
          refine c118.fok rfl (Cor.run (addC_good g_Within (noC_good _)) (noHx_good _) hm ?_)
          simp +contextual -implicitDefEqProofs (maxSteps := 2000000) only [bg_eq, a118, x_Within, w, h1', h2', h3', h4', not_true_eq_false, not_false_eq_true, ruB, rh_no, Int.reduceLT, Int.reduceLE, Int.reduceAdd, Int.reduceSub, Int.reduceMul, Int.reduceNeg, Int.reduceToNat, Int.reduceEq, Int.reduceNe, Int.reduceTDiv, Int.reduceTMod, implies_true, putL, appN, appX, appC, Eng.Fi, reduceCtorEq, exists_eq_left', exists_eq_left, if_true, if_false, List.replicate, Nat.reduceAdd, Nat.reduceSub, Nat.reduceMul, Nat.reduceLeDiff, Nat.reduceLT, Nat.reduceEqDiff]
      · have h3' : (b < a) = True := eq_true (by omega)
        rw [unl_f 9 h3, if_neg (by decide)]
        refine c118.fok rfl (Cor.run (addC_good g_Within (noC_good _)) (noHx_good _) hm ?_)
        simp +contextual -implicitDefEqProofs (maxSteps := 2000000) only [bg_eq, a118, x_Within, h1', h2', h3', not_true_eq_false, not_false_eq_true, ruB, rh_no, Int.reduceLT, Int.reduceLE, Int.reduceAdd, Int.reduceSub, Int.reduceMul, Int.reduceNeg, Int.reduceToNat, Int.reduceEq, Int.reduceNe, Int.reduceTDiv, Int.reduceTMod, implies_true, putL, appN, appX, appC, Eng.Fi, reduceCtorEq, exists_eq_left', exists_eq_left, if_true, if_false, List.replicate, Nat.reduceAdd, Nat.reduceSub, Nat.reduceMul, Nat.reduceLeDiff, Nat.reduceLT, Nat.reduceEqDiff]
    · have h2' := eq_false h2
      unfold inL at h2'
      rw [unl_f 2 (fun q => h2 q.2), fE1 (by decide), if_neg (by decide)]
      refine c118.fok rfl (Cor.run (addC_good g_Within (noC_good _)) (noHx_good _) hm ?_)
      simp +contextual -implicitDefEqProofs (maxSteps := 2000000) only [bg_eq, a118, x_Within, h1', h2', not_true_eq_false, not_false_eq_true, ruB, rh_no, Int.reduceLT, Int.reduceLE, Int.reduceAdd, Int.reduceSub, Int.reduceMul, Int.reduceNeg, Int.reduceToNat, Int.reduceEq, Int.reduceNe, Int.reduceTDiv, Int.reduceTMod, implies_true, putL, appN, appX, appC, Eng.Fi, reduceCtorEq, exists_eq_left', exists_eq_left, if_true, if_false, List.replicate, Nat.reduceAdd, Nat.reduceSub, Nat.reduceMul, Nat.reduceLeDiff, Nat.reduceLT, Nat.reduceEqDiff]
  · have h1' := eq_false h1
    unfold inL at h1'
    rw [unl_f 2 (fun q => h1 q.1), fE1 (by decide), if_neg (by decide)]
    refine c118.fok rfl (Cor.run (addC_good g_Within (noC_good _)) (noHx_good _) hm ?_)
    simp +contextual -implicitDefEqProofs (maxSteps := 2000000) only [bg_eq, a118, x_Within, h1', not_true_eq_false, not_false_eq_true, ruB, rh_no, Int.reduceLT, Int.reduceLE, Int.reduceAdd, Int.reduceSub, Int.reduceMul, Int.reduceNeg, Int.reduceToNat, Int.reduceEq, Int.reduceNe, Int.reduceTDiv, Int.reduceTMod, implies_true, putL, appN, appX, appC, Eng.Fi, reduceCtorEq, exists_eq_left', exists_eq_left, if_true, if_false, List.replicate, Nat.reduceAdd, Nat.reduceSub, Nat.reduceMul, Nat.reduceLeDiff, Nat.reduceLT, Nat.reduceEqDiff]
def cf_rsideErr : List AV → Option AV
  | [.agg [.int .i64 a, .int .i64 b], .int .i64 lo] => if -1000 ≤ lo ∧ lo ≤ 1000 then some (I (arG (inL lo a ∧ inL lo b) a b)) else none
  | _ => none
theorem g_rsideErr : Fn P 118 cf_rsideErr := fun args v hh => by
  unfold cf_rsideErr at hh; split at hh
  · split at hh
    · rename_i hc; have hk := Option.some.inj hh; subst hk; exact k_rsideErr _ _ _ hc
    · cases hh
  · cases hh
theorem x_rsideErr (a : Int) (b : Int) (lo : Int) (hc : (-1000 ≤ lo ∧ lo ≤ 1000) = True) : cf_rsideErr [.agg [.int .i64 a, .int .i64 b], .int .i64 lo] = some (I (arG (inL lo a ∧ inL lo b) a b)) := by
  exact if_pos (by rw [hc]; trivial)
end Wa
open Go Go.Proofs Eng
set_option maxRecDepth 100000
set_option linter.unusedSimpArgs false
set_option linter.unusedVariables false
namespace Wa
def S_rre (l : List Rg) (k : Nat) : AState := ⟨[.vs (l.map eRg), .any, .any, I k, .any, .any, .any, .any, .any, .any, .any, .any, .any, .any, .any, .any, .any, .any, .any, .any, .any, .any, .any, .any, .any, .any, .any, .any, .any, .any], [], 0⟩
theorem k_rReadingsErr (l : List Rg) : FOk P 119 [.vs (l.map eRg)] (I (rsE l)) := by
  rw [rsE]
  by_cases h3 : 12 < (l.length : Int)
  · have h3' := eq_true h3
    rw [if_pos h3]
    refine c119.fok (by simp only [subs, sub1, free_Rg]) (Cor.run (addC_good g_Within (addC_good g_rPointErr (noC_good _))) (noHx_good _) hm ?_)
    simp +contextual -implicitDefEqProofs (maxSteps := 2000000) only [bg_eq, a119, List.length_map, h3', ruB, rh_no, Int.reduceLT, Int.reduceLE, Int.reduceAdd, Int.reduceSub, Int.reduceMul, Int.reduceNeg, Int.reduceToNat, Int.reduceEq, Int.reduceNe, Int.reduceTDiv, Int.reduceTMod, implies_true, putL, appN, appX, appC, Eng.Fi, reduceCtorEq, exists_eq_left', exists_eq_left, if_true, if_false, List.replicate, Nat.reduceAdd, Nat.reduceSub, Nat.reduceMul, Nat.reduceLeDiff, Nat.reduceLT, Nat.reduceEqDiff]
  · have h3' := eq_false h3
    rw [if_neg h3]
    refine c119.fok (by simp only [subs, sub1, free_Rg]) (Cor.run (addC_good g_Within (addC_good g_rPointErr (noC_good _))) (noHx_good _) hm ?_)
    simp +contextual -implicitDefEqProofs (maxSteps := 2000000) only [bg_eq, a119, List.length_map, h3', Int.natCast_zero, ruB, rh_no, Int.reduceLT, Int.reduceLE, Int.reduceAdd, Int.reduceSub, Int.reduceMul, Int.reduceNeg, Int.reduceToNat, Int.reduceEq, Int.reduceNe, Int.reduceTDiv, Int.reduceTMod, implies_true, putL, appN, appX, appC, Eng.Fi, reduceCtorEq, exists_eq_left', exists_eq_left, if_true, if_false, List.replicate, Nat.reduceAdd, Nat.reduceSub, Nat.reduceMul, Nat.reduceLeDiff, Nat.reduceLT, Nat.reduceEqDiff]
    refine Cor.lp (addC_good g_Within (addC_good g_rPointErr (noC_good _))) (noHx_good _) hm (S_rre l) (fun k => k ≤ l.length ∧ rgG l = rgG (l.drop k)) (fun k => l.length - k) (a := 0) ⟨Nat.zero_le _, rfl⟩ (Wkn.keep [0, 3] rfl) ?_
    intro f k ⟨hk, hf⟩ go
    rcases Nat.lt_or_ge k l.length with h | h
    · have e1 : decide ((k : Int) < (l.length : Int)) = true := lt_t h
      have e2 : (l.map eRg)[k]? = some (eRg l[k]) := get_e eRg l h
      have e3 : IntKind.wrap .i64 ((k : Int) + 1) = ((k + 1 : Nat) : Int) := suc_w (by omega)
      have y := x_rPointErr ⟨(l[k]).y, (l[k]).z⟩
      rw [List.drop_eq_getElem_cons h, rgG] at hf
      generalize l[k] = r at *
      unfold rgE at hf
      by_cases c1 : ptE ⟨r.y, r.z⟩ = 0
      · have c1' := eq_true c1
        rw [c1, fE0, firstE_one] at hf
        by_cases c2 : -1000000000 ≤ r.p ∧ r.p ≤ 1000000000
        · have c2' := eq_true c2
          rw [unl_t 2 c2, if_pos rfl] at hf
          simp +contextual -implicitDefEqProofs (maxSteps := 2000000) only [S_rre, e1, e2, e3, y, x_Within, c1', c2', List.length_map, not_true_eq_false, ruB, rh_no, Int.reduceLT, Int.reduceLE, Int.reduceAdd, Int.reduceSub, Int.reduceMul, Int.reduceNeg, Int.reduceToNat, Int.reduceEq, Int.reduceNe, Int.reduceTDiv, Int.reduceTMod, implies_true, putL, appN, appX, appC, Eng.Fi, reduceCtorEq, exists_eq_left', exists_eq_left, if_true, if_false, List.replicate, Nat.reduceAdd, Nat.reduceSub, Nat.reduceMul, Nat.reduceLeDiff, Nat.reduceLT, Nat.reduceEqDiff]
          exact go _ (k + 1) ⟨h, hf⟩ (by omega) (Wkn.keep [0, 3] rfl)
        · have c2' := eq_false c2
          rw [unl_f 2 c2, if_neg (by decide)] at hf
          rw [hf]
          simp +contextual -implicitDefEqProofs (maxSteps := 2000000) only [S_rre, e1, e2, e3, y, x_Within, c1', c2', List.length_map, not_true_eq_false, not_false_eq_true, ruB, rh_no, Int.reduceLT, Int.reduceLE, Int.reduceAdd, Int.reduceSub, Int.reduceMul, Int.reduceNeg, Int.reduceToNat, Int.reduceEq, Int.reduceNe, Int.reduceTDiv, Int.reduceTMod, implies_true, putL, appN, appX, appC, Eng.Fi, reduceCtorEq, exists_eq_left', exists_eq_left, if_true, if_false, List.replicate, Nat.reduceAdd, Nat.reduceSub, Nat.reduceMul, Nat.reduceLeDiff, Nat.reduceLT, Nat.reduceEqDiff]
      · have c1' := eq_false c1
        rw [fE1 c1, if_neg c1] at hf
        rw [hf]
        simp +contextual -implicitDefEqProofs (maxSteps := 2000000) only [S_rre, e1, e2, e3, y, c1', List.length_map, not_false_eq_true, ruB, rh_no, Int.reduceLT, Int.reduceLE, Int.reduceAdd, Int.reduceSub, Int.reduceMul, Int.reduceNeg, Int.reduceToNat, Int.reduceEq, Int.reduceNe, Int.reduceTDiv, Int.reduceTMod, implies_true, putL, appN, appX, appC, Eng.Fi, reduceCtorEq, exists_eq_left', exists_eq_left, if_true, if_false, List.replicate, Nat.reduceAdd, Nat.reduceSub, Nat.reduceMul, Nat.reduceLeDiff, Nat.reduceLT, Nat.reduceEqDiff]
    · have e1 : decide ((k : Int) < (l.length : Int)) = false := lt_f h
      rw [List.drop_eq_nil_of_le h, rgG] at hf
      rw [hf]
      simp +contextual -implicitDefEqProofs (maxSteps := 2000000) only [S_rre, e1, List.length_map, ruB, rh_no, Int.reduceLT, Int.reduceLE, Int.reduceAdd, Int.reduceSub, Int.reduceMul, Int.reduceNeg, Int.reduceToNat, Int.reduceEq, Int.reduceNe, Int.reduceTDiv, Int.reduceTMod, implies_true, putL, appN, appX, appC, Eng.Fi, reduceCtorEq, exists_eq_left', exists_eq_left, if_true, if_false, List.replicate, Nat.reduceAdd, Nat.reduceSub, Nat.reduceMul, Nat.reduceLeDiff, Nat.reduceLT, Nat.reduceEqDiff]
def cf_rReadingsErr : List AV → Option AV
  | [.vs l_v] => onL dRg l_v fun l => some (I (rsE l))
  | _ => none
theorem g_rReadingsErr : Fn P 119 cf_rReadingsErr := fun args v hh => by
  unfold cf_rReadingsErr at hh; split at hh
  · obtain ⟨l, rfl, hh1⟩ := onL_inv dRg_inv hh
    have hk := Option.some.inj hh1; subst hk; exact k_rReadingsErr _
  · cases hh
theorem x_rReadingsErr (l : List Rg) : cf_rReadingsErr [.vs (l.map eRg)] = some (I (rsE l)) := by
  simp only [cf_rReadingsErr, onL_map dRg_e]
/-- a strength as the reference looks at it -/
def S_rse (x : Sr) (k : Nat) : AState := ⟨[.any, .vp [eSr x] 0 0, .any, .any, .any, I k, .any, .any, .any, .any, .any, .any, .any, .any, .any, .any, .any, .any, .any, .any, .any, .any, .any, .any, .any, .any, .any, .any, .any, .any, .any, .any, .any, .any, .any, .any, .any, .any, .any, .any, .any, .any, .any, .any, .any, .any, .any, .any, .any, .any, .any, .any, .any, .any, .any, .any, .any, .any, .any, .any, .any, .any, .any, .any, .any, .any, .any, .any, .any, .any], [], 0⟩
theorem st_first {a n : Int} (h : 1 ≤ n ∧ n ≤ 10000) : stE a n = unl (a < n) 9 := by rw [stE, unl_t 2 h, fE0, firstE_one]
theorem srE_of {x : Sr} (h : s1E x = 0) : srE x = firstE [stG 0 x.st, suE x.su, rsE x.rd] := if_pos h
theorem srE_no {x : Sr} (h : ¬ s1E x = 0) : srE x = s1E x := if_neg h
set_option maxHeartbeats 8000000 in
theorem k_rSearchErr (x : Sr) : FOk P 52 [eSr x] (I (srE x)) := by
  have y1 := x_rsideErr x.yl x.yh (-1000) (by simp)
  have y2 := x_rsideErr x.zl x.zh 0 (by simp)
  have y3 := x_rSetupErr x.su
  have y4 := x_rReadingsErr x.rd
  have q1 : arG (inL (-1000) x.yl ∧ inL (-1000) x.yh) x.yl x.yh = arG (siR x.yl ∧ siR x.yh) x.yl x.yh := rfl
  have q2 : arG (inL 0 x.zl ∧ inL 0 x.zh) x.zl x.zh = arG (heR x.zl ∧ heR x.zh) x.zl x.zh := rfl
  rw [q1] at y1
  rw [q2] at y2
  have hs1 : s1E x = firstE [arG (siR x.yl ∧ siR x.yh) x.yl x.yh, arG (heR x.zl ∧ heR x.zh) x.zl x.zh, unl (1 ≤ x.h ∧ x.h ≤ 100) 2, unl (0 < (x.st.length : Int)) 10, unl ((x.st.length : Int) ≤ 6) 8] := rfl
  generalize arG (siR x.yl ∧ siR x.yh) x.yl x.yh = e1 at *
  generalize arG (heR x.zl ∧ heR x.zh) x.zl x.zh = e2 at *
  clear q1 q2
  by_cases c1 : e1 = 0
  · have c1' := eq_true c1
    rw [c1, fE0] at hs1
    by_cases c2 : e2 = 0
    · have c2' := eq_true c2
      rw [c2, fE0] at hs1
      by_cases c3 : 1 ≤ x.h ∧ x.h ≤ 100
      · have c3' := eq_true c3
        rw [unl_t 2 c3, fE0] at hs1
        by_cases c4 : x.st.length = 0
        · have c4' : ((x.st.length : Int) = 0) = True := eq_true (by omega)
          rw [unl_f 10 (by omega), fE1 (by decide)] at hs1
          rw [srE_no (by rw [hs1]; decide), hs1]
          refine c52.fok (by simp only [subs, sub1, free_I, free_Rg]) (Cor.run (addC_good g_rReadingsErr (addC_good g_rSetupErr (addC_good g_Within (addC_good g_rsideErr (noC_good _))))) (noHx_good _) hm ?_)
          simp +contextual -implicitDefEqProofs (maxSteps := 2000000) only [bg_eq, a52, y1, y2, x_Within, c1', c2', c3', c4', List.length_map, not_true_eq_false, not_false_eq_true, ruB, rh_no, Int.reduceLT, Int.reduceLE, Int.reduceAdd, Int.reduceSub, Int.reduceMul, Int.reduceNeg, Int.reduceToNat, Int.reduceEq, Int.reduceNe, Int.reduceTDiv, Int.reduceTMod, implies_true, putL, appN, appX, appC, Eng.Fi, reduceCtorEq, exists_eq_left', exists_eq_left, if_true, if_false, List.replicate, Nat.reduceAdd, Nat.reduceSub, Nat.reduceMul, Nat.reduceLeDiff, Nat.reduceLT, Nat.reduceEqDiff]
        · have c4' : ((x.st.length : Int) = 0) = False := eq_false (by omega)
          rw [unl_t 10 (by omega), fE0, firstE_one] at hs1
          by_cases c5 : (x.st.length : Int) ≤ 6
          · have c5' : (6 < (x.st.length : Int)) = False := eq_false (by omega)
            rw [unl_t 8 c5] at hs1
            rw [srE_of hs1]
            refine c52.fok (by simp only [subs, sub1, free_I, free_Rg]) (Cor.run (addC_good g_rReadingsErr (addC_good g_rSetupErr (addC_good g_Within (addC_good g_rsideErr (noC_good _))))) (noHx_good _) hm ?_)
            simp +contextual -implicitDefEqProofs (maxSteps := 2000000) only [bg_eq, a52, y1, y2, x_Within, c1', c2', c3', c4', c5', List.length_map, Int.natCast_zero, not_true_eq_false, not_false_eq_true, ruB, rh_no, Int.reduceLT, Int.reduceLE, Int.reduceAdd, Int.reduceSub, Int.reduceMul, Int.reduceNeg, Int.reduceToNat, Int.reduceEq, Int.reduceNe, Int.reduceTDiv, Int.reduceTMod, implies_true, putL, appN, appX, appC, Eng.Fi, reduceCtorEq, exists_eq_left', exists_eq_left, if_true, if_false, List.replicate, Nat.reduceAdd, Nat.reduceSub, Nat.reduceMul, Nat.reduceLeDiff, Nat.reduceLT, Nat.reduceEqDiff]
            refine Cor.lp (addC_good g_rReadingsErr (addC_good g_rSetupErr (addC_good g_Within (addC_good g_rsideErr (noC_good _))))) (noHx_good _) hm (S_rse x) (fun k => k ≤ x.st.length ∧ ((k = 0 ∧ True) ∨ ∃ j, ∃ hj : j < x.st.length, k = j + 1 ∧ stG 0 x.st = stG x.st[j] (x.st.drop (j + 1)))) (fun k => x.st.length - k) (a := 0) ⟨Nat.zero_le _, .inl ⟨rfl, trivial⟩⟩ (Wkn.to ⟨0, [], [0], 0, [1, 5]⟩ rfl rfl (by simp [Wk.st, keepT, memN, Wk.fate, Wk.fate0, assoc, getE, Wk.hp, ABlk.sub, sub1, subs, free_I, free_Rg, S_rse])) ?_
            rintro f k ⟨hk, hc⟩ go
            rcases hc with ⟨rfl, _⟩ | ⟨j, hj, rfl, hf⟩
            · have hl0 : 0 < x.st.length := by omega
              have u1 : ((0 : Int) < (x.st.length : Int)) = True := eq_true (by omega)
              have u2 : (x.st.map eI)[0]? = some (eI x.st[0]) := get_e eI x.st hl0
              have lc : stG 0 x.st = if stE 0 x.st[0] = 0 then stG x.st[0] (x.st.drop 1) else stE 0 x.st[0] := by
                have := List.drop_eq_getElem_cons hl0
                rw [List.drop_zero] at this
                conv => lhs; rw [this]
                rfl
              have hnx : 1 ≤ x.st[0] ∧ x.st[0] ≤ 10000 → (1 ≤ x.st.length ∧ (((1 : Nat) = 0 ∧ True) ∨ ∃ j, ∃ hj : j < x.st.length, 1 = j + 1 ∧ stG 0 x.st = stG x.st[j] (x.st.drop (j + 1)))) := fun q => ⟨hl0, .inr ⟨0, hl0, rfl, by rw [lc, st_first q, unl_t 9 (by omega), if_pos rfl]⟩⟩
              obtain ⟨a, ha⟩ : ∃ a, x.st[0] = a := ⟨_, rfl⟩
              rw [ha] at u2 lc hnx
              by_cases d1 : 1 ≤ a ∧ a ≤ 10000
              · have d1' := eq_true d1
                simp +contextual -implicitDefEqProofs (maxSteps := 2000000) only [S_rse, u1, u2, x_Within, d1', List.length_map, Int.natCast_zero, not_true_eq_false, ruB, rh_no, Int.reduceLT, Int.reduceLE, Int.reduceAdd, Int.reduceSub, Int.reduceMul, Int.reduceNeg, Int.reduceToNat, Int.reduceEq, Int.reduceNe, Int.reduceTDiv, Int.reduceTMod, implies_true, putL, appN, appX, appC, Eng.Fi, reduceCtorEq, exists_eq_left', exists_eq_left, if_true, if_false, List.replicate, Nat.reduceAdd, Nat.reduceSub, Nat.reduceMul, Nat.reduceLeDiff, Nat.reduceLT, Nat.reduceEqDiff]
                exact go _ 1 (hnx d1) (by omega) (Wkn.keep [1, 5] rfl)
              · have d1' := eq_false d1
                have hv : stG 0 x.st = 2 := by
                  have hs : stE 0 a = 2 := by rw [stE, unl_f 2 d1, fE1 (by decide)]
                  rw [lc, hs, if_neg (by decide)]
                rw [hv, fE1 (by decide)]
                simp +contextual -implicitDefEqProofs (maxSteps := 2000000) only [S_rse, u1, u2, x_Within, d1', List.length_map, Int.natCast_zero, not_false_eq_true, ruB, rh_no, Int.reduceLT, Int.reduceLE, Int.reduceAdd, Int.reduceSub, Int.reduceMul, Int.reduceNeg, Int.reduceToNat, Int.reduceEq, Int.reduceNe, Int.reduceTDiv, Int.reduceTMod, implies_true, putL, appN, appX, appC, Eng.Fi, reduceCtorEq, exists_eq_left', exists_eq_left, if_true, if_false, List.replicate, Nat.reduceAdd, Nat.reduceSub, Nat.reduceMul, Nat.reduceLeDiff, Nat.reduceLT, Nat.reduceEqDiff]
            · rcases Nat.lt_or_ge (j + 1) x.st.length with hlt | hge
              · have u1 : (((j + 1 : Nat) : Int) < (x.st.length : Int)) = True := eq_true (by omega)
                have u2 : (x.st.map eI)[j + 1]? = some (eI x.st[j + 1]) := get_e eI x.st hlt
                have u3 : IntKind.wrap .i64 (((j + 1 : Nat) : Int) + 1) = ((j + 1 + 1 : Nat) : Int) := suc_w (by omega)
                have u4 : (x.st.map eI)[j]? = some (eI x.st[j]) := get_e eI x.st hj
                have u6 : ((0 : Int) < ((j + 1 : Nat) : Int)) = True := eq_true (by omega)
                have u7 : IntKind.wrap .i64 (((j + 1 : Nat) : Int) - 1) = (j : Int) := by rw [wrap64 (by omega) (by omega)]; omega
                rw [List.drop_eq_getElem_cons hlt, stG] at hf
                have hnx : stE x.st[j] x.st[j + 1] = 0 → (j + 1 + 1 ≤ x.st.length ∧ ((j + 1 + 1 = 0 ∧ True) ∨ ∃ j', ∃ hj : j' < x.st.length, j + 1 + 1 = j' + 1 ∧ stG 0 x.st = stG x.st[j'] (x.st.drop (j' + 1)))) := fun q => ⟨hlt, .inr ⟨j + 1, hlt, rfl, by rw [hf, if_pos q]⟩⟩
                obtain ⟨b, hbe⟩ : ∃ b, x.st[j] = b := ⟨_, rfl⟩
                obtain ⟨a, ha⟩ : ∃ a, x.st[j + 1] = a := ⟨_, rfl⟩
                rw [ha] at u2 hf hnx
                rw [hbe] at u4 hf hnx
                clear ha hbe
                generalize ej : j + 1 = jj at *
                by_cases d1 : 1 ≤ a ∧ a ≤ 10000
                · have d1' := eq_true d1
                  rw [st_first d1] at hf hnx
                  by_cases d2 : b < a
                  · have d2' : (a ≤ b) = False := eq_false (by omega)
                    have hz := unl_t 9 d2
                    simp +contextual -implicitDefEqProofs (maxSteps := 2000000) only [S_rse, u1, u2, u3, u4, u6, u7, x_Within, d1', d2', List.length_map, not_true_eq_false, ruB, rh_no, Int.reduceLT, Int.reduceLE, Int.reduceAdd, Int.reduceSub, Int.reduceMul, Int.reduceNeg, Int.reduceToNat, Int.reduceEq, Int.reduceNe, Int.reduceTDiv, Int.reduceTMod, implies_true, putL, appN, appX, appC, Eng.Fi, reduceCtorEq, exists_eq_left', exists_eq_left, if_true, if_false, List.replicate, Nat.reduceAdd, Nat.reduceSub, Nat.reduceMul, Nat.reduceLeDiff, Nat.reduceLT, Nat.reduceEqDiff]
                    exact go _ (jj + 1) (hnx hz) (by omega) (Wkn.keep [1, 5] rfl)
                  · have d2' : (a ≤ b) = True := eq_true (by omega)
                    rw [unl_f 9 d2, if_neg (by decide)] at hf
                    rw [hf, fE1 (by decide)]
                    simp +contextual -implicitDefEqProofs (maxSteps := 2000000) only [S_rse, u1, u2, u3, u4, u6, u7, x_Within, d1', d2', List.length_map, not_true_eq_false, ruB, rh_no, Int.reduceLT, Int.reduceLE, Int.reduceAdd, Int.reduceSub, Int.reduceMul, Int.reduceNeg, Int.reduceToNat, Int.reduceEq, Int.reduceNe, Int.reduceTDiv, Int.reduceTMod, implies_true, putL, appN, appX, appC, Eng.Fi, reduceCtorEq, exists_eq_left', exists_eq_left, if_true, if_false, List.replicate, Nat.reduceAdd, Nat.reduceSub, Nat.reduceMul, Nat.reduceLeDiff, Nat.reduceLT, Nat.reduceEqDiff]
                · have d1' := eq_false d1
                  have hs : stE b a = 2 := by rw [stE, unl_f 2 d1, fE1 (by decide)]
                  rw [hs, if_neg (by decide)] at hf
                  rw [hf, fE1 (by decide)]
                  simp +contextual -implicitDefEqProofs (maxSteps := 2000000) only [S_rse, u1, u2, u3, u4, u6, u7, x_Within, d1', List.length_map, not_false_eq_true, ruB, rh_no, Int.reduceLT, Int.reduceLE, Int.reduceAdd, Int.reduceSub, Int.reduceMul, Int.reduceNeg, Int.reduceToNat, Int.reduceEq, Int.reduceNe, Int.reduceTDiv, Int.reduceTMod, implies_true, putL, appN, appX, appC, Eng.Fi, reduceCtorEq, exists_eq_left', exists_eq_left, if_true, if_false, List.replicate, Nat.reduceAdd, Nat.reduceSub, Nat.reduceMul, Nat.reduceLeDiff, Nat.reduceLT, Nat.reduceEqDiff]
              · have u1 : (((j + 1 : Nat) : Int) < (x.st.length : Int)) = False := eq_false (by omega)
                rw [List.drop_eq_nil_of_le hge, stG] at hf
                rw [hf, fE0]
                by_cases d1 : suE x.su = 0
                · have d1' := eq_true d1
                  rw [d1, fE0, firstE_one]
                  simp +contextual -implicitDefEqProofs (maxSteps := 2000000) only [S_rse, u1, y3, y4, d1', List.length_map, free_Rg, not_true_eq_false, ruB, rh_no, Int.reduceLT, Int.reduceLE, Int.reduceAdd, Int.reduceSub, Int.reduceMul, Int.reduceNeg, Int.reduceToNat, Int.reduceEq, Int.reduceNe, Int.reduceTDiv, Int.reduceTMod, implies_true, putL, appN, appX, appC, Eng.Fi, reduceCtorEq, exists_eq_left', exists_eq_left, if_true, if_false, List.replicate, Nat.reduceAdd, Nat.reduceSub, Nat.reduceMul, Nat.reduceLeDiff, Nat.reduceLT, Nat.reduceEqDiff]
                · have d1' := eq_false d1
                  rw [fE1 d1]
                  simp +contextual -implicitDefEqProofs (maxSteps := 2000000) only [S_rse, u1, y3, d1', List.length_map, not_false_eq_true, ruB, rh_no, Int.reduceLT, Int.reduceLE, Int.reduceAdd, Int.reduceSub, Int.reduceMul, Int.reduceNeg, Int.reduceToNat, Int.reduceEq, Int.reduceNe, Int.reduceTDiv, Int.reduceTMod, implies_true, putL, appN, appX, appC, Eng.Fi, reduceCtorEq, exists_eq_left', exists_eq_left, if_true, if_false, List.replicate, Nat.reduceAdd, Nat.reduceSub, Nat.reduceMul, Nat.reduceLeDiff, Nat.reduceLT, Nat.reduceEqDiff]
          · have c5' : (6 < (x.st.length : Int)) = True := eq_true (by omega)
            rw [unl_f 8 c5] at hs1
            rw [srE_no (by rw [hs1]; decide), hs1]
            refine c52.fok (by simp only [subs, sub1, free_I, free_Rg]) (Cor.run (addC_good g_rReadingsErr (addC_good g_rSetupErr (addC_good g_Within (addC_good g_rsideErr (noC_good _))))) (noHx_good _) hm ?_)
            simp +contextual -implicitDefEqProofs (maxSteps := 2000000) only [bg_eq, a52, y1, y2, x_Within, c1', c2', c3', c4', c5', List.length_map, not_true_eq_false, not_false_eq_true, ruB, rh_no, Int.reduceLT, Int.reduceLE, Int.reduceAdd, Int.reduceSub, Int.reduceMul, Int.reduceNeg, Int.reduceToNat, Int.reduceEq, Int.reduceNe, Int.reduceTDiv, Int.reduceTMod, implies_true, putL, appN, appX, appC, Eng.Fi, reduceCtorEq, exists_eq_left', exists_eq_left, if_true, if_false, List.replicate, Nat.reduceAdd, Nat.reduceSub, Nat.reduceMul, Nat.reduceLeDiff, Nat.reduceLT, Nat.reduceEqDiff]
      · have c3' := eq_false c3
        rw [unl_f 2 c3, fE1 (by decide)] at hs1
        rw [srE_no (by rw [hs1]; decide), hs1]
        refine c52.fok (by simp only [subs, sub1, free_I, free_Rg]) (Cor.run (addC_good g_rReadingsErr (addC_good g_rSetupErr (addC_good g_Within (addC_good g_rsideErr (noC_good _))))) (noHx_good _) hm ?_)
        simp +contextual -implicitDefEqProofs (maxSteps := 2000000) only [bg_eq, a52, y1, y2, x_Within, c1', c2', c3', not_true_eq_false, not_false_eq_true, ruB, rh_no, Int.reduceLT, Int.reduceLE, Int.reduceAdd, Int.reduceSub, Int.reduceMul, Int.reduceNeg, Int.reduceToNat, Int.reduceEq, Int.reduceNe, Int.reduceTDiv, Int.reduceTMod, implies_true, putL, appN, appX, appC, Eng.Fi, reduceCtorEq, exists_eq_left', exists_eq_left, if_true, if_false, List.replicate, Nat.reduceAdd, Nat.reduceSub, Nat.reduceMul, Nat.reduceLeDiff, Nat.reduceLT, Nat.reduceEqDiff]
    · have c2' := eq_false c2
      rw [fE1 c2] at hs1
      rw [srE_no (by rw [hs1]; exact c2), hs1]
      refine c52.fok (by simp only [subs, sub1, free_I, free_Rg]) (Cor.run (addC_good g_rReadingsErr (addC_good g_rSetupErr (addC_good g_Within (addC_good g_rsideErr (noC_good _))))) (noHx_good _) hm ?_)
      simp +contextual -implicitDefEqProofs (maxSteps := 2000000) only [bg_eq, a52, y1, y2, c1', c2', not_true_eq_false, not_false_eq_true, ruB, rh_no, Int.reduceLT, Int.reduceLE, Int.reduceAdd, Int.reduceSub, Int.reduceMul, Int.reduceNeg, Int.reduceToNat, Int.reduceEq, Int.reduceNe, Int.reduceTDiv, Int.reduceTMod, implies_true, putL, appN, appX, appC, Eng.Fi, reduceCtorEq, exists_eq_left', exists_eq_left, if_true, if_false, List.replicate, Nat.reduceAdd, Nat.reduceSub, Nat.reduceMul, Nat.reduceLeDiff, Nat.reduceLT, Nat.reduceEqDiff]
  · have c1' := eq_false c1
    rw [fE1 c1] at hs1
    rw [srE_no (by rw [hs1]; exact c1), hs1]
    refine c52.fok (by simp only [subs, sub1, free_I, free_Rg]) (Cor.run (addC_good g_rReadingsErr (addC_good g_rSetupErr (addC_good g_Within (addC_good g_rsideErr (noC_good _))))) (noHx_good _) hm ?_)
    simp +contextual -implicitDefEqProofs (maxSteps := 2000000) only [bg_eq, a52, y1, c1', not_true_eq_false, not_false_eq_true, ruB, rh_no, Int.reduceLT, Int.reduceLE, Int.reduceAdd, Int.reduceSub, Int.reduceMul, Int.reduceNeg, Int.reduceToNat, Int.reduceEq, Int.reduceNe, Int.reduceTDiv, Int.reduceTMod, implies_true, putL, appN, appX, appC, Eng.Fi, reduceCtorEq, exists_eq_left', exists_eq_left, if_true, if_false, List.replicate, Nat.reduceAdd, Nat.reduceSub, Nat.reduceMul, Nat.reduceLeDiff, Nat.reduceLT, Nat.reduceEqDiff]
noncomputable def cf_rSearchErr : List AV → Option AV
  | [x_v] => onSr x_v fun x => some (I (srE x))
  | _ => none
theorem g_rSearchErr : Fn P 52 cf_rSearchErr := fun args v hh => by
  unfold cf_rSearchErr at hh; split at hh
  · obtain ⟨x, rfl, hh1⟩ := onSr_inv hh
    have hk := Option.some.inj hh1; subst hk; exact k_rSearchErr _
  · cases hh
theorem x_rSearchErr (x : Sr) : cf_rSearchErr [eSr x] = some (I (srE x)) := by
  simp only [cf_rSearchErr, onSr_e]
end Wa
