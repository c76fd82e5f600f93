import Derived.Test.YtabkbhpeeefmgaaEngS9
import Derived.Test.YtabkbhpeeefmgaaW6
open Go Go.Proofs Eng
set_option maxRecDepth 100000
set_option linter.unusedSimpArgs false
set_option linter.unusedVariables false
def a27 : AC := .seq (.ops false [] [⟨some 1, .box 50 6 1 true, [.t 0], none⟩, ⟨some 2, .p (.mov), [.c (.int .i64 0)], none⟩]) (.seq (.seq (.ops false [] [⟨some 3, .p (.faddr 0), [.t 1], none⟩, ⟨some 4, .load 2 true, [.t 3], none⟩, ⟨some 5, .call 97, [.t 4, .c (.int .i64 (-1000000)), .c (.int .i64 1000000)], none⟩, ⟨some 6, .p (.notB), [.t 5], none⟩, ⟨some 7, .p (.mov), [.t 6], none⟩, ⟨some 8, .p (.faddr 2), [.t 1], some (7, false)⟩, ⟨some 9, .load 2 true, [.t 8], some (7, false)⟩, ⟨some 10, .call 97, [.t 9, .c (.int .i64 0), .c (.int .i64 1000000)], some (7, false)⟩, ⟨some 11, .p (.notB), [.t 10], some (7, false)⟩, ⟨some 12, .p (.pick), [.t 7, .c (.bool true), .t 11], none⟩, ⟨some 13, .p (.mov), [.t 12], none⟩, ⟨some 14, .p (.faddr 4), [.t 1], some (13, false)⟩, ⟨some 15, .load 2 true, [.t 14], some (13, false)⟩, ⟨some 16, .call 97, [.t 15, .c (.int .i64 0), .c (.int .i64 10000)], some (13, false)⟩, ⟨some 17, .p (.notB), [.t 16], some (13, false)⟩, ⟨some 18, .p (.pick), [.t 13, .c (.bool true), .t 17], none⟩]) (.cond (.t 18) (.seq (.ops false [] [⟨some 2, .p (.mov), [.c (.int .i64 2)], none⟩]) (.ret)) (.skip))) (.seq (.seq (.ops false [] [⟨some 19, .p (.faddr 0), [.t 1], none⟩, ⟨some 20, .p (.faddr 0), [.t 19], none⟩, ⟨some 21, .load 1 false, [.t 20], none⟩, ⟨some 22, .p (.faddr 0), [.t 1], none⟩, ⟨some 23, .p (.faddr 1), [.t 22], none⟩, ⟨some 24, .load 1 false, [.t 23], none⟩, ⟨some 25, .p (.binI .gtr), [.t 21, .t 24], none⟩, ⟨some 26, .p (.mov), [.t 25], none⟩, ⟨some 27, .p (.faddr 2), [.t 1], some (26, false)⟩, ⟨some 28, .p (.faddr 0), [.t 27], some (26, false)⟩, ⟨some 29, .load 1 false, [.t 28], some (26, false)⟩, ⟨some 30, .p (.faddr 2), [.t 1], some (26, false)⟩, ⟨some 31, .p (.faddr 1), [.t 30], some (26, false)⟩, ⟨some 32, .load 1 false, [.t 31], some (26, false)⟩, ⟨some 33, .p (.binI .gtr), [.t 29, .t 32], some (26, false)⟩, ⟨some 34, .p (.pick), [.t 26, .c (.bool true), .t 33], none⟩, ⟨some 35, .p (.mov), [.t 34], none⟩, ⟨some 36, .p (.faddr 4), [.t 1], some (35, false)⟩, ⟨some 37, .p (.faddr 0), [.t 36], some (35, false)⟩, ⟨some 38, .load 1 false, [.t 37], some (35, false)⟩, ⟨some 39, .p (.faddr 4), [.t 1], some (35, false)⟩, ⟨some 40, .p (.faddr 1), [.t 39], some (35, false)⟩, ⟨some 41, .load 1 false, [.t 40], some (35, false)⟩, ⟨some 42, .p (.binI .gtr), [.t 38, .t 41], some (35, false)⟩, ⟨some 43, .p (.pick), [.t 35, .c (.bool true), .t 42], none⟩]) (.cond (.t 43) (.seq (.ops false [] [⟨some 2, .p (.mov), [.c (.int .i64 9)], none⟩]) (.ret)) (.skip))) (.seq (.ops false [] [⟨some 2, .p (.mov), [.c (.int .i64 0)], none⟩]) (.ret))))
theorem c27 : FnC Try.prog 27 44 a27 [.tmp 2] := ⟨Try.call27, _, _, Try.func27, rfl, by kernel_rfl, by kernel_rfl, rfl⟩
def a29 : AC := .seq (.ops false [] [⟨some 1, .box 52 6 1 true, [.t 0], none⟩, ⟨some 2, .p (.mov), [.c (.int .i64 0)], none⟩]) (.seq (.seq (.ops false [] [⟨some 3, .p (.faddr 0), [.t 1], none⟩, ⟨some 4, .load 2 true, [.t 3], none⟩, ⟨some 5, .call 97, [.t 4, .c (.int .i64 (-100)), .c (.int .i64 100)], none⟩, ⟨some 6, .p (.notB), [.t 5], none⟩, ⟨some 7, .p (.mov), [.t 6], none⟩, ⟨some 8, .p (.faddr 2), [.t 1], some (7, false)⟩, ⟨some 9, .load 2 true, [.t 8], some (7, false)⟩, ⟨some 10, .call 97, [.t 9, .c (.int .i64 0), .c (.int .i64 100)], some (7, false)⟩, ⟨some 11, .p (.notB), [.t 10], some (7, false)⟩, ⟨some 12, .p (.pick), [.t 7, .c (.bool true), .t 11], none⟩, ⟨some 13, .p (.mov), [.t 12], none⟩, ⟨some 14, .p (.faddr 4), [.t 1], some (13, false)⟩, ⟨some 15, .load 2 true, [.t 14], some (13, false)⟩, ⟨some 16, .call 97, [.t 15, .c (.int .i64 0), .c (.int .i64 100)], some (13, false)⟩, ⟨some 17, .p (.notB), [.t 16], some (13, false)⟩, ⟨some 18, .p (.pick), [.t 13, .c (.bool true), .t 17], none⟩]) (.cond (.t 18) (.seq (.ops false [] [⟨some 2, .p (.mov), [.c (.int .i64 2)], none⟩]) (.ret)) (.skip))) (.seq (.seq (.ops false [] [⟨some 19, .p (.faddr 0), [.t 1], none⟩, ⟨some 20, .p (.faddr 0), [.t 19], none⟩, ⟨some 21, .load 1 false, [.t 20], none⟩, ⟨some 22, .p (.faddr 0), [.t 1], none⟩, ⟨some 23, .p (.faddr 1), [.t 22], none⟩, ⟨some 24, .load 1 false, [.t 23], none⟩, ⟨some 25, .p (.binI .gtr), [.t 21, .t 24], none⟩, ⟨some 26, .p (.mov), [.t 25], none⟩, ⟨some 27, .p (.faddr 2), [.t 1], some (26, false)⟩, ⟨some 28, .p (.faddr 0), [.t 27], some (26, false)⟩, ⟨some 29, .load 1 false, [.t 28], some (26, false)⟩, ⟨some 30, .p (.faddr 2), [.t 1], some (26, false)⟩, ⟨some 31, .p (.faddr 1), [.t 30], some (26, false)⟩, ⟨some 32, .load 1 false, [.t 31], some (26, false)⟩, ⟨some 33, .p (.binI .gtr), [.t 29, .t 32], some (26, false)⟩, ⟨some 34, .p (.pick), [.t 26, .c (.bool true), .t 33], none⟩, ⟨some 35, .p (.mov), [.t 34], none⟩, ⟨some 36, .p (.faddr 4), [.t 1], some (35, false)⟩, ⟨some 37, .p (.faddr 0), [.t 36], some (35, false)⟩, ⟨some 38, .load 1 false, [.t 37], some (35, false)⟩, ⟨some 39, .p (.faddr 4), [.t 1], some (35, false)⟩, ⟨some 40, .p (.faddr 1), [.t 39], some (35, false)⟩, ⟨some 41, .load 1 false, [.t 40], some (35, false)⟩, ⟨some 42, .p (.binI .gtr), [.t 38, .t 41], some (35, false)⟩, ⟨some 43, .p (.pick), [.t 35, .c (.bool true), .t 42], none⟩]) (.cond (.t 43) (.seq (.ops false [] [⟨some 2, .p (.mov), [.c (.int .i64 9)], none⟩]) (.ret)) (.skip))) (.seq (.ops false [] [⟨some 2, .p (.mov), [.c (.int .i64 0)], none⟩]) (.ret))))
theorem c29 : FnC Try.prog 29 44 a29 [.tmp 2] := ⟨Try.call29, _, _, Try.func29, rfl, by kernel_rfl, by kernel_rfl, rfl⟩
def a68 : AC := .seq (.ops false [] [⟨some 2, .box 50 6 1 true, [.t 0], none⟩, ⟨some 3, .box 52 6 1 true, [.t 1], none⟩, ⟨some 4, .p (.mov), [.c (.int .i64 0)], none⟩]) (.seq (.seq (.ops false [] [⟨some 6, .load 6 true, [.t 2], none⟩, ⟨some 7, .call 27, [.t 6], none⟩, ⟨some 5, .p (.mov), [.t 7], none⟩]) (.seq (.ops false [] [⟨some 8, .p (.mov), [.t 5], none⟩, ⟨some 9, .p (.binI .neq), [.t 8, .c (.int .i64 0)], none⟩]) (.cond (.t 9) (.seq (.ops false [] [⟨some 10, .p (.mov), [.t 5], none⟩, ⟨some 4, .p (.mov), [.t 10], none⟩]) (.ret)) (.skip)))) (.seq (.ops false [] [⟨some 11, .load 6 true, [.t 3], none⟩, ⟨some 12, .call 29, [.t 11], none⟩, ⟨some 4, .p (.mov), [.t 12], none⟩]) (.ret)))
theorem c68 : FnC Try.prog 68 13 a68 [.tmp 4] := ⟨Try.call68, _, _, Try.func68, rfl, by kernel_rfl, by kernel_rfl, rfl⟩
namespace Wa
theorem k_rBoxErr (b : Bx) : FOk P 27 [eBx b] (I (bxE b)) := by
  unfold bxE
  by_cases h0 : bxR b
  · have h0' : inR (-1000000) 1000000 b.yl b.yh ∧ inR 0 1000000 b.zl b.zh ∧ inR 0 10000 b.sl b.sh := ⟨h0.1.1, h0.1.2, h0.2⟩
    have q1 := eq_true h0'.1
    have q2 := eq_true h0'.2.1
    have q3 := eq_true h0'.2.2
    rw [unl_t 2 h0]
    by_cases c1 : b.yl ≤ b.yh
    · rw [unl_t 9 c1]
      have c1' : (b.yh < b.yl) = False := eq_false (by omega)
      by_cases c2 : b.zl ≤ b.zh
      · rw [unl_t 9 c2]
        have c2' : (b.zh < b.zl) = False := eq_false (by omega)
        by_cases c3 : b.sl ≤ b.sh
        · rw [unl_t 9 c3]
          have c3' : (b.sh < b.sl) = False := eq_false (by omega)
          refine c27.fok rfl (Cor.run (addC_good g_rwithin2 (noC_good _)) (noHx_good _) hm ?_)
          simp +contextual -implicitDefEqProofs (maxSteps := 2000000) only [bg_eq, a27, x_rwithin2, q1, q2, q3, c1', c2', c3', not_true_eq_false, firstE, ruB, rh_no, Int.reduceLT, Int.reduceLE, Int.reduceAdd, Int.reduceSub, Int.reduceMul, Int.reduceNeg, Int.reduceToNat, Int.reduceEq, Int.reduceNe, Int.reduceTDiv, Int.reduceTMod, implies_true, putL, appN, appX, appC, Eng.Fi, reduceCtorEq, exists_eq_left', exists_eq_left, if_true, if_false, List.replicate, Nat.reduceAdd, Nat.reduceSub, Nat.reduceMul, Nat.reduceLeDiff, Nat.reduceLT, Nat.reduceEqDiff]
        · rw [unl_f 9 c3]
          have c3' : (b.sh < b.sl) = True := eq_true (by omega)
          refine c27.fok rfl (Cor.run (addC_good g_rwithin2 (noC_good _)) (noHx_good _) hm ?_)
          simp +contextual -implicitDefEqProofs (maxSteps := 2000000) only [bg_eq, a27, x_rwithin2, q1, q2, q3, c1', c2', c3', not_true_eq_false, firstE, ruB, rh_no, Int.reduceLT, Int.reduceLE, Int.reduceAdd, Int.reduceSub, Int.reduceMul, Int.reduceNeg, Int.reduceToNat, Int.reduceEq, Int.reduceNe, Int.reduceTDiv, Int.reduceTMod, implies_true, putL, appN, appX, appC, Eng.Fi, reduceCtorEq, exists_eq_left', exists_eq_left, if_true, if_false, List.replicate, Nat.reduceAdd, Nat.reduceSub, Nat.reduceMul, Nat.reduceLeDiff, Nat.reduceLT, Nat.reduceEqDiff]
      · rw [unl_f 9 c2]
        have c2' : (b.zh < b.zl) = True := eq_true (by omega)
        refine c27.fok rfl (Cor.run (addC_good g_rwithin2 (noC_good _)) (noHx_good _) hm ?_)
        simp +contextual -implicitDefEqProofs (maxSteps := 2000000) only [bg_eq, a27, x_rwithin2, q1, q2, q3, c1', c2', not_true_eq_false, firstE, ruB, rh_no, Int.reduceLT, Int.reduceLE, Int.reduceAdd, Int.reduceSub, Int.reduceMul, Int.reduceNeg, Int.reduceToNat, Int.reduceEq, Int.reduceNe, Int.reduceTDiv, Int.reduceTMod, implies_true, putL, appN, appX, appC, Eng.Fi, reduceCtorEq, exists_eq_left', exists_eq_left, if_true, if_false, List.replicate, Nat.reduceAdd, Nat.reduceSub, Nat.reduceMul, Nat.reduceLeDiff, Nat.reduceLT, Nat.reduceEqDiff]
    · rw [unl_f 9 c1]
      have c1' : (b.yh < b.yl) = True := eq_true (by omega)
      refine c27.fok rfl (Cor.run (addC_good g_rwithin2 (noC_good _)) (noHx_good _) hm ?_)
      simp +contextual -implicitDefEqProofs (maxSteps := 2000000) only [bg_eq, a27, x_rwithin2, q1, q2, q3, c1', not_true_eq_false, firstE, ruB, rh_no, Int.reduceLT, Int.reduceLE, Int.reduceAdd, Int.reduceSub, Int.reduceMul, Int.reduceNeg, Int.reduceToNat, Int.reduceEq, Int.reduceNe, Int.reduceTDiv, Int.reduceTMod, implies_true, putL, appN, appX, appC, Eng.Fi, reduceCtorEq, exists_eq_left', exists_eq_left, if_true, if_false, List.replicate, Nat.reduceAdd, Nat.reduceSub, Nat.reduceMul, Nat.reduceLeDiff, Nat.reduceLT, Nat.reduceEqDiff]
  · rw [unl_f 2 h0]
    have hf : firstE [2, unl (b.yl ≤ b.yh) 9, unl (b.zl ≤ b.zh) 9, unl (b.sl ≤ b.sh) 9] = 2 := rfl
    rw [hf]
    refine c27.fok rfl (Cor.run (addC_good g_rwithin2 (noC_good _)) (noHx_good _) hm ?_)
    by_cases q1 : inR (-1000000) 1000000 b.yl b.yh
    · have q1' := eq_true q1
      by_cases q2 : inR 0 1000000 b.zl b.zh
      · have q2' := eq_true q2
        have q3' : inR 0 10000 b.sl b.sh = False := eq_false fun q3 => h0 ⟨⟨q1, q2⟩, q3⟩
        simp +contextual -implicitDefEqProofs (maxSteps := 2000000) only [bg_eq, a27, x_rwithin2, q1', q2', q3', not_true_eq_false, not_false_eq_true, ruB, rh_no, Int.reduceLT, Int.reduceLE, Int.reduceAdd, Int.reduceSub, Int.reduceMul, Int.reduceNeg, Int.reduceToNat, Int.reduceEq, Int.reduceNe, Int.reduceTDiv, Int.reduceTMod, implies_true, putL, appN, appX, appC, Eng.Fi, reduceCtorEq, exists_eq_left', exists_eq_left, if_true, if_false, List.replicate, Nat.reduceAdd, Nat.reduceSub, Nat.reduceMul, Nat.reduceLeDiff, Nat.reduceLT, Nat.reduceEqDiff]
      · have q2' := eq_false q2
        simp +contextual -implicitDefEqProofs (maxSteps := 2000000) only [bg_eq, a27, x_rwithin2, q1', q2', not_true_eq_false, not_false_eq_true, ruB, rh_no, Int.reduceLT, Int.reduceLE, Int.reduceAdd, Int.reduceSub, Int.reduceMul, Int.reduceNeg, Int.reduceToNat, Int.reduceEq, Int.reduceNe, Int.reduceTDiv, Int.reduceTMod, implies_true, putL, appN, appX, appC, Eng.Fi, reduceCtorEq, exists_eq_left', exists_eq_left, if_true, if_false, List.replicate, Nat.reduceAdd, Nat.reduceSub, Nat.reduceMul, Nat.reduceLeDiff, Nat.reduceLT, Nat.reduceEqDiff]
    · have q1' := eq_false q1
      simp +contextual -implicitDefEqProofs (maxSteps := 2000000) only [bg_eq, a27, x_rwithin2, q1', not_true_eq_false, not_false_eq_true, ruB, rh_no, Int.reduceLT, Int.reduceLE, Int.reduceAdd, Int.reduceSub, Int.reduceMul, Int.reduceNeg, Int.reduceToNat, Int.reduceEq, Int.reduceNe, Int.reduceTDiv, Int.reduceTMod, implies_true, putL, appN, appX, appC, Eng.Fi, reduceCtorEq, exists_eq_left', exists_eq_left, if_true, if_false, List.replicate, Nat.reduceAdd, Nat.reduceSub, Nat.reduceMul, Nat.reduceLeDiff, Nat.reduceLT, Nat.reduceEqDiff]
def cf_rBoxErr : List AV → Option AV
  | [.agg [.int .i64 b_yl, .int .i64 b_yh, .int .i64 b_zl, .int .i64 b_zh, .int .i64 b_sl, .int .i64 b_sh]] => some (I (bxE (⟨b_yl, b_yh, b_zl, b_zh, b_sl, b_sh⟩ : Bx)))
  | _ => none
theorem g_rBoxErr : Fn P 27 cf_rBoxErr := fun args v hh => by
  unfold cf_rBoxErr at hh; split at hh
  · have hk := Option.some.inj hh; subst hk; exact k_rBoxErr ⟨_, _, _, _, _, _⟩
  · cases hh
theorem x_rBoxErr (b : Bx) : cf_rBoxErr [.agg [I b.yl, I b.yh, I b.zl, I b.zh, I b.sl, I b.sh]] = some (I (bxE b)) := by
  rfl
theorem k_rDriftErr (b : Bx) : FOk P 29 [eBx b] (I (dfE b)) := by
  unfold dfE
  by_cases h0 : dfR b
  · have h0' : inR (-100) 100 b.yl b.yh ∧ inR 0 100 b.zl b.zh ∧ inR 0 100 b.sl b.sh := ⟨h0.1.1, h0.1.2, h0.2⟩
    have q1 := eq_true h0'.1
    have q2 := eq_true h0'.2.1
    have q3 := eq_true h0'.2.2
    rw [unl_t 2 h0]
    by_cases c1 : b.yl ≤ b.yh
    · rw [unl_t 9 c1]
      have c1' : (b.yh < b.yl) = False := eq_false (by omega)
      by_cases c2 : b.zl ≤ b.zh
      · rw [unl_t 9 c2]
        have c2' : (b.zh < b.zl) = False := eq_false (by omega)
        by_cases c3 : b.sl ≤ b.sh
        · rw [unl_t 9 c3]
          have c3' : (b.sh < b.sl) = False := eq_false (by omega)
          refine c29.fok rfl (Cor.run (addC_good g_rwithin2 (noC_good _)) (noHx_good _) hm ?_)
          simp +contextual -implicitDefEqProofs (maxSteps := 2000000) only [bg_eq, a29, x_rwithin2, q1, q2, q3, c1', c2', c3', not_true_eq_false, firstE, ruB, rh_no, Int.reduceLT, Int.reduceLE, Int.reduceAdd, Int.reduceSub, Int.reduceMul, Int.reduceNeg, Int.reduceToNat, Int.reduceEq, Int.reduceNe, Int.reduceTDiv, Int.reduceTMod, implies_true, putL, appN, appX, appC, Eng.Fi, reduceCtorEq, exists_eq_left', exists_eq_left, if_true, if_false, List.replicate, Nat.reduceAdd, Nat.reduceSub, Nat.reduceMul, Nat.reduceLeDiff, Nat.reduceLT, Nat.reduceEqDiff]
        · rw [unl_f 9 c3]
          have c3' : (b.sh < b.sl) = True := eq_true (by omega)
          refine c29.fok rfl (Cor.run (addC_good g_rwithin2 (noC_good _)) (noHx_good _) hm ?_)
          simp +contextual -implicitDefEqProofs (maxSteps := 2000000) only [bg_eq, a29, x_rwithin2, q1, q2, q3, c1', c2', c3', not_true_eq_false, firstE, ruB, rh_no, Int.reduceLT, Int.reduceLE, Int.reduceAdd, Int.reduceSub, Int.reduceMul, Int.reduceNeg, Int.reduceToNat, Int.reduceEq, Int.reduceNe, Int.reduceTDiv, Int.reduceTMod, implies_true, putL, appN, appX, appC, Eng.Fi, reduceCtorEq, exists_eq_left', exists_eq_left, if_true, if_false, List.replicate, Nat.reduceAdd, Nat.reduceSub, Nat.reduceMul, Nat.reduceLeDiff, Nat.reduceLT, Nat.reduceEqDiff]
      · rw [unl_f 9 c2]
        have c2' : (b.zh < b.zl) = True := eq_true (by omega)
        refine c29.fok rfl (Cor.run (addC_good g_rwithin2 (noC_good _)) (noHx_good _) hm ?_)
        simp +contextual -implicitDefEqProofs (maxSteps := 2000000) only [bg_eq, a29, x_rwithin2, q1, q2, q3, c1', c2', not_true_eq_false, firstE, ruB, rh_no, Int.reduceLT, Int.reduceLE, Int.reduceAdd, Int.reduceSub, Int.reduceMul, Int.reduceNeg, Int.reduceToNat, Int.reduceEq, Int.reduceNe, Int.reduceTDiv, Int.reduceTMod, implies_true, putL, appN, appX, appC, Eng.Fi, reduceCtorEq, exists_eq_left', exists_eq_left, if_true, if_false, List.replicate, Nat.reduceAdd, Nat.reduceSub, Nat.reduceMul, Nat.reduceLeDiff, Nat.reduceLT, Nat.reduceEqDiff]
    · rw [unl_f 9 c1]
      have c1' : (b.yh < b.yl) = True := eq_true (by omega)
      refine c29.fok rfl (Cor.run (addC_good g_rwithin2 (noC_good _)) (noHx_good _) hm ?_)
      simp +contextual -implicitDefEqProofs (maxSteps := 2000000) only [bg_eq, a29, x_rwithin2, q1, q2, q3, c1', not_true_eq_false, firstE, ruB, rh_no, Int.reduceLT, Int.reduceLE, Int.reduceAdd, Int.reduceSub, Int.reduceMul, Int.reduceNeg, Int.reduceToNat, Int.reduceEq, Int.reduceNe, Int.reduceTDiv, Int.reduceTMod, implies_true, putL, appN, appX, appC, Eng.Fi, reduceCtorEq, exists_eq_left', exists_eq_left, if_true, if_false, List.replicate, Nat.reduceAdd, Nat.reduceSub, Nat.reduceMul, Nat.reduceLeDiff, Nat.reduceLT, Nat.reduceEqDiff]
  · rw [unl_f 2 h0]
    have hf : firstE [2, unl (b.yl ≤ b.yh) 9, unl (b.zl ≤ b.zh) 9, unl (b.sl ≤ b.sh) 9] = 2 := rfl
    rw [hf]
    refine c29.fok rfl (Cor.run (addC_good g_rwithin2 (noC_good _)) (noHx_good _) hm ?_)
    by_cases q1 : inR (-100) 100 b.yl b.yh
    · have q1' := eq_true q1
      by_cases q2 : inR 0 100 b.zl b.zh
      · have q2' := eq_true q2
        have q3' : inR 0 100 b.sl b.sh = False := eq_false fun q3 => h0 ⟨⟨q1, q2⟩, q3⟩
        simp +contextual -implicitDefEqProofs (maxSteps := 2000000) only [bg_eq, a29, x_rwithin2, q1', q2', q3', not_true_eq_false, not_false_eq_true, ruB, rh_no, Int.reduceLT, Int.reduceLE, Int.reduceAdd, Int.reduceSub, Int.reduceMul, Int.reduceNeg, Int.reduceToNat, Int.reduceEq, Int.reduceNe, Int.reduceTDiv, Int.reduceTMod, implies_true, putL, appN, appX, appC, Eng.Fi, reduceCtorEq, exists_eq_left', exists_eq_left, if_true, if_false, List.replicate, Nat.reduceAdd, Nat.reduceSub, Nat.reduceMul, Nat.reduceLeDiff, Nat.reduceLT, Nat.reduceEqDiff]
      · have q2' := eq_false q2
        simp +contextual -implicitDefEqProofs (maxSteps := 2000000) only [bg_eq, a29, x_rwithin2, q1', q2', not_true_eq_false, not_false_eq_true, ruB, rh_no, Int.reduceLT, Int.reduceLE, Int.reduceAdd, Int.reduceSub, Int.reduceMul, Int.reduceNeg, Int.reduceToNat, Int.reduceEq, Int.reduceNe, Int.reduceTDiv, Int.reduceTMod, implies_true, putL, appN, appX, appC, Eng.Fi, reduceCtorEq, exists_eq_left', exists_eq_left, if_true, if_false, List.replicate, Nat.reduceAdd, Nat.reduceSub, Nat.reduceMul, Nat.reduceLeDiff, Nat.reduceLT, Nat.reduceEqDiff]
    · have q1' := eq_false q1
      simp +contextual -implicitDefEqProofs (maxSteps := 2000000) only [bg_eq, a29, x_rwithin2, q1', not_true_eq_false, not_false_eq_true, ruB, rh_no, Int.reduceLT, Int.reduceLE, Int.reduceAdd, Int.reduceSub, Int.reduceMul, Int.reduceNeg, Int.reduceToNat, Int.reduceEq, Int.reduceNe, Int.reduceTDiv, Int.reduceTMod, implies_true, putL, appN, appX, appC, Eng.Fi, reduceCtorEq, exists_eq_left', exists_eq_left, if_true, if_false, List.replicate, Nat.reduceAdd, Nat.reduceSub, Nat.reduceMul, Nat.reduceLeDiff, Nat.reduceLT, Nat.reduceEqDiff]
def cf_rDriftErr : List AV → Option AV
  | [.agg [.int .i64 b_yl, .int .i64 b_yh, .int .i64 b_zl, .int .i64 b_zh, .int .i64 b_sl, .int .i64 b_sh]] => some (I (dfE (⟨b_yl, b_yh, b_zl, b_zh, b_sl, b_sh⟩ : Bx)))
  | _ => none
theorem g_rDriftErr : Fn P 29 cf_rDriftErr := fun args v hh => by
  unfold cf_rDriftErr at hh; split at hh
  · have hk := Option.some.inj hh; subst hk; exact k_rDriftErr ⟨_, _, _, _, _, _⟩
  · cases hh
theorem x_rDriftErr (b : Bx) : cf_rDriftErr [.agg [I b.yl, I b.yh, I b.zl, I b.zh, I b.sl, I b.sh]] = some (I (dfE b)) := by
  rfl
def mvE (b d : Bx) : Int := if bxE b = 0 then dfE d else bxE b
theorem k_rMovesErr (b d : Bx) : FOk P 68 [eBx b, eBx d] (I (mvE b d)) := by
  have y1 := x_rBoxErr b
  have y2 := x_rDriftErr d
  by_cases h : bxE b = 0
  · have h' := eq_true h
    rw [mvE, if_pos h]
    refine c68.fok rfl (Cor.run (addC_good g_rDriftErr (addC_good g_rBoxErr (noC_good _))) (noHx_good _) hm ?_)
    simp +contextual -implicitDefEqProofs (maxSteps := 2000000) only [bg_eq, a68, y1, y2, h', not_true_eq_false, ruB, rh_no, Int.reduceLT, Int.reduceLE, Int.reduceAdd, Int.reduceSub, Int.reduceMul, Int.reduceNeg, Int.reduceToNat, Int.reduceEq, Int.reduceNe, Int.reduceTDiv, Int.reduceTMod, implies_true, putL, appN, appX, appC, Eng.Fi, reduceCtorEq, exists_eq_left', exists_eq_left, if_true, if_false, List.replicate, Nat.reduceAdd, Nat.reduceSub, Nat.reduceMul, Nat.reduceLeDiff, Nat.reduceLT, Nat.reduceEqDiff]
  · have h' := eq_false h
    rw [mvE, if_neg h]
    refine c68.fok rfl (Cor.run (addC_good g_rDriftErr (addC_good g_rBoxErr (noC_good _))) (noHx_good _) hm ?_)
    simp +contextual -implicitDefEqProofs (maxSteps := 2000000) only [bg_eq, a68, y1, y2, h', not_false_eq_true, ruB, rh_no, Int.reduceLT, Int.reduceLE, Int.reduceAdd, Int.reduceSub, Int.reduceMul, Int.reduceNeg, Int.reduceToNat, Int.reduceEq, Int.reduceNe, Int.reduceTDiv, Int.reduceTMod, implies_true, putL, appN, appX, appC, Eng.Fi, reduceCtorEq, exists_eq_left', exists_eq_left, if_true, if_false, List.replicate, Nat.reduceAdd, Nat.reduceSub, Nat.reduceMul, Nat.reduceLeDiff, Nat.reduceLT, Nat.reduceEqDiff]
def cf_rMovesErr : List AV → Option AV
  | [.agg [.int .i64 b_yl, .int .i64 b_yh, .int .i64 b_zl, .int .i64 b_zh, .int .i64 b_sl, .int .i64 b_sh], .agg [.int .i64 d_yl, .int .i64 d_yh, .int .i64 d_zl, .int .i64 d_zh, .int .i64 d_sl, .int .i64 d_sh]] => some (I (mvE (⟨b_yl, b_yh, b_zl, b_zh, b_sl, b_sh⟩ : Bx) (⟨d_yl, d_yh, d_zl, d_zh, d_sl, d_sh⟩ : Bx)))
  | _ => none
theorem g_rMovesErr : Fn P 68 cf_rMovesErr := fun args v hh => by
  unfold cf_rMovesErr at hh; split at hh
  · have hk := Option.some.inj hh; subst hk; exact k_rMovesErr ⟨_, _, _, _, _, _⟩ ⟨_, _, _, _, _, _⟩
  · cases hh
theorem x_rMovesErr (b : Bx) (d : Bx) : cf_rMovesErr [.agg [I b.yl, I b.yh, I b.zl, I b.zh, I b.sl, I b.sh], .agg [I d.yl, I d.yh, I d.zl, I d.zh, I d.sl, I d.sh]] = some (I (mvE b d)) := by
  rfl
end Wa
