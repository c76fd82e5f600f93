import Derived.Test.YtabkbhpeeefmgaaEngS9
import Derived.Test.YtabkbhpeeefmgaaW904
open Go Go.Proofs Eng
set_option maxRecDepth 100000
set_option linter.unusedSimpArgs false
set_option linter.unusedVariables false
def a120 : AC := .seq (.ops false [] [⟨some 1, .box 102 10 1 true, [.t 0], none⟩, ⟨some 2, .p (.mov), [.c (.int .i64 0)], none⟩]) (.seq (.ops false [] [⟨some 3, .p (.mov), [.c (.fn 146 [] [])], none⟩]) (.seq (.ops false [] [⟨some 7, .p (.faddr 5), [.t 1], none⟩, ⟨some 8, .load 1 false, [.t 7], none⟩, ⟨some 9, .p (.lenS), [.t 8], none⟩, ⟨some 4, .p (.mov), [.t 9], none⟩]) (.seq (.ops true [] [⟨some 10, .p (.mov), [.t 3], none⟩, ⟨some 11, .p (.faddr 0), [.t 1], none⟩, ⟨some 12, .load 2 true, [.t 11], none⟩, ⟨some 13, .callv, [.t 10, .t 12, .c (.fn 144 [] [])], none⟩, ⟨some 14, .p (.mov), [.t 3], none⟩, ⟨some 15, .p (.faddr 2), [.t 1], none⟩, ⟨some 16, .load 2 true, [.t 15], none⟩, ⟨some 17, .callv, [.t 14, .t 16, .c (.fn 145 [] [])], none⟩, ⟨some 18, .p (.faddr 4), [.t 1], none⟩, ⟨some 19, .load 1 false, [.t 18], none⟩, ⟨some 20, .call 147, [.t 19], none⟩, ⟨some 21, .call 91, [.t 20, .c (.int .i64 2)], none⟩, ⟨some 22, .p (.mov), [.t 4], none⟩, ⟨some 23, .p (.binI .gtr), [.t 22, .c (.int .i64 0)], none⟩, ⟨some 24, .call 91, [.t 23, .c (.int .i64 10)], none⟩, ⟨some 25, .p (.mov), [.t 4], none⟩, ⟨some 26, .p (.binI .leq), [.t 25, .c (.int .i64 6)], none⟩, ⟨some 27, .call 91, [.t 26, .c (.int .i64 8)], none⟩, ⟨some 28, .fbs 1, [.t 13, .t 17, .t 21, .t 24, .t 27], none⟩, ⟨some 29, .call 79, [.t 28], none⟩, ⟨some 5, .p (.mov), [.t 29], none⟩]) (.seq (.seq (.ops false [] [⟨some 30, .p (.mov), [.t 5], none⟩, ⟨some 31, .p (.binI .neq), [.t 30, .c (.int .i64 0)], none⟩]) (.cond (.t 31) (.seq (.ops false [] [⟨some 32, .p (.mov), [.t 5], none⟩, ⟨some 2, .p (.mov), [.t 32], none⟩]) (.ret)) (.skip))) (.seq (.ops false [] [⟨some 6, .alloc 3 1 [.int .i64 0], [], none⟩, ⟨none, .store 1 false, [.t 6, .c (.int .i64 0)], none⟩]) (.seq (.ops false [] [⟨some 33, .p (.faddr 5), [.t 1], none⟩, ⟨some 34, .load 1 false, [.t 33], none⟩, ⟨some 35, .p (.mkfn 149 0), [.t 6], none⟩, ⟨some 36, .call 148, [.t 34, .t 35], none⟩, ⟨some 5, .p (.mov), [.t 36], none⟩]) (.seq (.ops true [] [⟨some 37, .p (.mov), [.t 5], none⟩, ⟨some 38, .p (.faddr 6), [.t 1], none⟩, ⟨some 39, .load 3 true, [.t 38], none⟩, ⟨some 40, .call 113, [.t 39], none⟩, ⟨some 41, .p (.faddr 9), [.t 1], none⟩, ⟨some 42, .load 1 false, [.t 41], none⟩, ⟨some 43, .call 123, [.t 42], none⟩, ⟨some 44, .fbs 1, [.t 37, .t 40, .t 43], none⟩, ⟨some 45, .call 79, [.t 44], none⟩, ⟨some 2, .p (.mov), [.t 45], none⟩]) (.ret))))))))
theorem c120 : FnC Try.prog 120 46 a120 [.tmp 2] := ⟨Try.call120, _, _, Try.func120, rfl, by kernel_rfl, by kernel_rfl, rfl⟩
def a146 : AC := .seq (.ops false [] [⟨some 2, .box 48 2 1 true, [.t 0], none⟩, ⟨some 4, .p (.mov), [.c (.int .i64 0)], none⟩]) (.seq (.ops true [] [⟨some 6, .p (.mov), [.t 1], none⟩, ⟨some 7, .p (.faddr 0), [.t 2], none⟩, ⟨some 8, .load 1 false, [.t 7], none⟩, ⟨some 9, .callv, [.t 6, .t 8], none⟩, ⟨some 10, .p (.mov), [.t 9], none⟩, ⟨some 11, .p (.mov), [.t 1], some (10, true)⟩, ⟨some 12, .p (.faddr 1), [.t 2], some (10, true)⟩, ⟨some 13, .load 1 false, [.t 12], some (10, true)⟩, ⟨some 14, .callv, [.t 11, .t 13], some (10, true)⟩, ⟨some 15, .p (.pick), [.t 10, .t 14, .c (.bool false)], none⟩, ⟨some 16, .call 91, [.t 15, .c (.int .i64 2)], none⟩, ⟨some 17, .load 2 true, [.t 2], none⟩, ⟨some 18, .call 92, [.t 17], none⟩, ⟨some 19, .fbs 1, [.t 16, .t 18], none⟩, ⟨some 20, .call 79, [.t 19], none⟩, ⟨some 5, .p (.mov), [.t 20], none⟩]) (.seq (.seq (.ops false [] [⟨some 21, .p (.mov), [.t 5], none⟩, ⟨some 22, .p (.binI .neq), [.t 21, .c (.int .i64 0)], none⟩]) (.cond (.t 22) (.seq (.ops false [] [⟨some 23, .p (.mov), [.t 5], none⟩, ⟨some 4, .p (.mov), [.t 23], none⟩]) (.ret)) (.skip))) (.seq (.ops false [] [⟨some 24, .p (.faddr 1), [.t 2], none⟩, ⟨some 25, .load 1 false, [.t 24], none⟩, ⟨some 26, .p (.faddr 0), [.t 2], none⟩, ⟨some 27, .load 1 false, [.t 26], none⟩, ⟨some 28, .p (.binI .sub), [.t 25, .t 27], none⟩, ⟨some 29, .p (.binI .leq), [.t 28, .c (.int .i64 12)], none⟩, ⟨some 30, .call 91, [.t 29, .c (.int .i64 8)], none⟩, ⟨some 4, .p (.mov), [.t 30], none⟩]) (.ret))))
theorem c146 : FnC Try.prog 146 31 a146 [.tmp 4] := ⟨Try.call146, _, _, Try.func146, rfl, by kernel_rfl, by kernel_rfl, rfl⟩
def a148 : AC := .seq (.ops false [] [⟨some 4, .p (.mov), [.c (.int .i64 0)], none⟩]) (.seq (.seq (.ops false [] [⟨some 8, .p (.mov), [.t 0], none⟩, ⟨some 9, .p (.lenS), [.t 8], none⟩, ⟨some 10, .p (.mov), [.c (.int .i64 0)], none⟩]) (.block 0 (.loop (.seq (.ops false [] [⟨some 11, .p (.binI .lss), [.t 10, .t 9], none⟩]) (.seq (.cond (.t 11) (.skip) (.exit 0)) (.seq (.block 1 (.seq (.ops false [] [⟨some 12, .p (.iaddrS 1), [.t 8, .t 10], none⟩, ⟨some 13, .load 1 false, [.t 12], none⟩, ⟨some 6, .p (.mov), [.t 13], none⟩]) (.seq (.ops false [] [⟨some 14, .p (.mov), [.t 1], none⟩, ⟨some 15, .p (.mov), [.t 6], none⟩, ⟨some 16, .callv, [.t 14, .t 15], none⟩, ⟨some 7, .p (.mov), [.t 16], none⟩]) (.seq (.ops false [] [⟨some 17, .p (.mov), [.t 7], none⟩, ⟨some 18, .p (.binI .neq), [.t 17, .c (.int .i64 0)], none⟩]) (.cond (.t 18) (.seq (.ops false [] [⟨some 19, .p (.mov), [.t 7], none⟩, ⟨some 4, .p (.mov), [.t 19], none⟩]) (.ret)) (.skip)))))) (.ops false [] [⟨some 20, .p (.binI .add), [.t 10, .c (.int .i64 1)], none⟩, ⟨some 10, .p (.mov), [.t 20], none⟩]))))))) (.seq (.ops false [] [⟨some 4, .p (.mov), [.c (.int .i64 0)], none⟩]) (.ret)))
theorem c148 : FnC Try.prog 148 21 a148 [.tmp 4] := ⟨Try.call148, _, _, Try.func148, rfl, by kernel_rfl, by kernel_rfl, rfl⟩
def a149 : AC := .seq (.ops false [] [⟨some 3, .p (.mov), [.c (.int .i64 0)], none⟩]) (.seq (.ops true [] [⟨some 5, .p (.mov), [.t 0], none⟩, ⟨some 6, .call 150, [.t 5], none⟩, ⟨some 7, .call 91, [.t 6, .c (.int .i64 2)], none⟩, ⟨some 8, .p (.mov), [.t 0], none⟩, ⟨some 9, .load 1 false, [.t 1], none⟩, ⟨some 10, .p (.binI .gtr), [.t 8, .t 9], none⟩, ⟨some 11, .call 91, [.t 10, .c (.int .i64 9)], none⟩, ⟨some 12, .fbs 1, [.t 7, .t 11], none⟩, ⟨some 13, .call 79, [.t 12], none⟩, ⟨some 4, .p (.mov), [.t 13], none⟩]) (.seq (.ops false [] [⟨some 14, .p (.mov), [.t 0], none⟩, ⟨none, .store 1 false, [.t 1, .t 14], none⟩]) (.seq (.ops false [] [⟨some 15, .p (.mov), [.t 4], none⟩, ⟨some 3, .p (.mov), [.t 15], none⟩]) (.ret))))
theorem c149 : FnC Try.prog 149 16 a149 [.tmp 3] := ⟨Try.call149, _, _, Try.func149, rfl, by kernel_rfl, by kernel_rfl, rfl⟩
def a151 : AC := .seq (.ops false [] [⟨some 8, .p (.faddr 0), [.t 1], none⟩, ⟨some 9, .p (.faddr 0), [.t 8], none⟩, ⟨some 10, .load 1 false, [.t 9], none⟩, ⟨some 3, .p (.mov), [.t 10], none⟩]) (.block 0 (.loop (.seq (.seq (.ops false [] [⟨some 11, .p (.mov), [.t 3], none⟩, ⟨some 12, .p (.faddr 0), [.t 1], none⟩, ⟨some 13, .p (.faddr 1), [.t 12], none⟩, ⟨some 14, .load 1 false, [.t 13], none⟩, ⟨some 15, .p (.binI .leq), [.t 11, .t 14], none⟩]) (.cond (.t 15) (.skip) (.exit 0))) (.seq (.block 1 (.seq (.ops false [] [⟨some 18, .p (.faddr 2), [.t 1], none⟩, ⟨some 19, .p (.faddr 0), [.t 18], none⟩, ⟨some 20, .load 1 false, [.t 19], none⟩, ⟨some 4, .p (.mov), [.t 20], none⟩]) (.block 2 (.loop (.seq (.seq (.ops false [] [⟨some 21, .p (.mov), [.t 4], none⟩, ⟨some 22, .p (.faddr 2), [.t 1], none⟩, ⟨some 23, .p (.faddr 1), [.t 22], none⟩, ⟨some 24, .load 1 false, [.t 23], none⟩, ⟨some 25, .p (.binI .leq), [.t 21, .t 24], none⟩]) (.cond (.t 25) (.skip) (.exit 2))) (.seq (.block 3 (.seq (.ops false [] [⟨some 28, .p (.faddr 5), [.t 1], none⟩, ⟨some 29, .load 1 false, [.t 28], none⟩, ⟨some 30, .p (.lenS), [.t 29], none⟩, ⟨some 31, .p (.mov), [.c (.int .i64 0)], none⟩]) (.block 4 (.loop (.seq (.ops false [] [⟨some 32, .p (.binI .lss), [.t 31, .t 30], none⟩]) (.seq (.cond (.t 32) (.skip) (.exit 4)) (.seq (.block 5 (.seq (.ops false [] [⟨some 33, .p (.iaddrS 1), [.t 29, .t 31], none⟩, ⟨some 34, .load 1 false, [.t 33], none⟩, ⟨some 6, .p (.mov), [.t 34], none⟩]) (.seq (.ops false [] [⟨some 35, .p (.mov), [.t 3], none⟩, ⟨some 36, .p (.mov), [.t 4], none⟩, ⟨some 37, .p (.build [.int .i64 0, .int .i64 0] [(0, 1), (1, 1)]), [.t 35, .t 36], none⟩, ⟨some 38, .p (.faddr 4), [.t 1], none⟩, ⟨some 39, .load 1 false, [.t 38], none⟩, ⟨some 40, .p (.mov), [.t 6], none⟩, ⟨some 41, .p (.build [.int .i64 0, .int .i64 0, .int .i64 0, .int .i64 0] [(0, 2), (2, 1), (3, 1)]), [.t 37, .t 39, .t 40], none⟩, ⟨some 7, .alloc 108 4 [.agg [.int .i64 0, .int .i64 0, .int .i64 0, .int .i64 0]], [], none⟩, ⟨none, .store 4 true, [.t 7, .t 41], none⟩]) (.seq (.ops true [] [⟨some 42, .p (.mov), [.t 0], none⟩, ⟨some 43, .load 4 true, [.t 7], none⟩, ⟨some 44, .load 4 true, [.t 7], none⟩, ⟨some 45, .p (.faddr 6), [.t 1], none⟩, ⟨some 46, .load 3 true, [.t 45], none⟩, ⟨some 47, .p (.faddr 9), [.t 1], none⟩, ⟨some 48, .load 1 false, [.t 47], none⟩, ⟨some 49, .call 124, [.t 44, .t 46, .t 48], none⟩, ⟨some 50, .callv, [.t 42, .t 43, .t 49], none⟩, ⟨some 51, .p (.notB), [.t 50], none⟩]) (.cond (.t 51) (.ret) (.skip)))))) (.ops false [] [⟨some 52, .p (.binI .add), [.t 31, .c (.int .i64 1)], none⟩, ⟨some 31, .p (.mov), [.t 52], none⟩])))))))) (.ops false [] [⟨some 26, .p (.mov), [.t 4], none⟩, ⟨some 27, .p (.binI .add), [.t 26, .c (.int .i64 1)], none⟩, ⟨some 4, .p (.mov), [.t 27], none⟩]))))))) (.ops false [] [⟨some 16, .p (.mov), [.t 3], none⟩, ⟨some 17, .p (.binI .add), [.t 16, .c (.int .i64 1)], none⟩, ⟨some 3, .p (.mov), [.t 17], none⟩])))))
theorem c151 : FnC Try.prog 151 53 a151 [] := ⟨Try.call151, _, _, Try.func151, rfl, by kernel_rfl, by kernel_rfl, rfl⟩
namespace Wa
structure Sr where
  yl : Int
  yh : Int
  zl : Int
  zh : Int
  h : Int
  st : List Int
  su : Su
  rd : List Rg
abbrev eSr (x : Sr) : AV := .agg [I x.yl, I x.yh, I x.zl, I x.zh, I x.h, .vs (x.st.map eI), I x.su.y, I x.su.z, I x.su.c, .vs (x.rd.map eRg)]
def onSr (v : AV) (g : Sr → Option AV) : Option AV := match v with
  | .agg [.int .i64 a, .int .i64 b, .int .i64 c, .int .i64 d, .int .i64 e, .vs us, .int .i64 f, .int .i64 i, .int .i64 j, .vs vs] => onL decI us fun l => onL dRg vs fun m => g ⟨a, b, c, d, e, l, ⟨f, i, j⟩, m⟩
  | _ => none
theorem onSr_e (x : Sr) (g : Sr → Option AV) : onSr (eSr x) g = g x := by simp only [onSr, onL_map (enc := eI) decI_I, onL_map dRg_e]
theorem onSr_inv {v : AV} {g : Sr → Option AV} {u : AV} (h : onSr v g = some u) : ∃ x, v = eSr x ∧ g x = some u := by
  unfold onSr at h
  split at h
  · obtain ⟨l, rfl, h2⟩ := onL_inv (enc := eI) (fun v x => decI_inv) h
    obtain ⟨m, rfl, h3⟩ := onL_inv dRg_inv h2
    exact ⟨_, rfl, h3⟩
  · cases h
theorem free_Sr (φ : Nat → Fate) (x : Sr) : sub1 φ (eSr x) = eSr x := by simp only [sub1, subs, free_I, free_Rg]
def arG (p : Prop) [Decidable p] (a b : Int) : Int := if firstE [unl p 2, unl (a ≤ b) 9] = 0 then unl (b - a ≤ 12) 8 else firstE [unl p 2, unl (a ≤ b) 9]
theorem ar_sm {p : Prop} [Decidable p] {a b : Int} (h : firstE [unl p 2, unl (a ≤ b) 9] = 0) : p ∧ a ≤ b := by
  have z := firstE_zero h
  exact ⟨unl_zero (z (unl p 2) (by simp)) (by decide), unl_zero (z (unl (a ≤ b) 9) (by simp)) (by decide)⟩
theorem k_areaS (a b : Int) : FOk P 146 [eRn ⟨a, b⟩, .fn 144 [] []] (I (arG (siR a ∧ siR b) a b)) := by
  unfold arG
  by_cases h : firstE [unl (siR a ∧ siR b) 2, unl (a ≤ b) 9] = 0
  · have hs := ar_sm h
    have w : IntKind.wrap .i64 (b - a) = b - a := by unfold siR at hs; exact wrap64 (by omega) (by omega)
    rw [if_pos h]
    refine c146.fok rfl (Cor.run (addC_good g_first (addC_good g_orderErr (addC_good g_unless (addC_good g_isSide (noC_good _))))) (noHx_good _) hm ?_)
    simp +contextual -implicitDefEqProofs (maxSteps := 2000000) only [bg_eq, a146, x_isSide, x_unless, x_orderErr, x_first, y_first, h, w, not_true_eq_false, ruB, rh_no, Int.reduceLT, Int.reduceLE, Int.reduceAdd, Int.reduceSub, Int.reduceMul, Int.reduceNeg, Int.reduceToNat, Int.reduceEq, Int.reduceNe, Int.reduceTDiv, Int.reduceTMod, implies_true, putL, appN, appX, appC, Eng.Fi, reduceCtorEq, exists_eq_left', exists_eq_left, if_true, if_false, List.replicate, Nat.reduceAdd, Nat.reduceSub, Nat.reduceMul, Nat.reduceLeDiff, Nat.reduceLT, Nat.reduceEqDiff]
  · rw [if_neg h]
    refine c146.fok rfl (Cor.run (addC_good g_first (addC_good g_orderErr (addC_good g_unless (addC_good g_isSide (noC_good _))))) (noHx_good _) hm ?_)
    simp +contextual -implicitDefEqProofs (maxSteps := 2000000) only [bg_eq, a146, x_isSide, x_unless, x_orderErr, x_first, y_first, h, not_false_eq_true, ruB, rh_no, Int.reduceLT, Int.reduceLE, Int.reduceAdd, Int.reduceSub, Int.reduceMul, Int.reduceNeg, Int.reduceToNat, Int.reduceEq, Int.reduceNe, Int.reduceTDiv, Int.reduceTMod, implies_true, putL, appN, appX, appC, Eng.Fi, reduceCtorEq, exists_eq_left', exists_eq_left, if_true, if_false, List.replicate, Nat.reduceAdd, Nat.reduceSub, Nat.reduceMul, Nat.reduceLeDiff, Nat.reduceLT, Nat.reduceEqDiff]
theorem k_areaH (a b : Int) : FOk P 146 [eRn ⟨a, b⟩, .fn 145 [] []] (I (arG (heR a ∧ heR b) a b)) := by
  unfold arG
  by_cases h : firstE [unl (heR a ∧ heR b) 2, unl (a ≤ b) 9] = 0
  · have hs := ar_sm h
    have w : IntKind.wrap .i64 (b - a) = b - a := by unfold heR at hs; exact wrap64 (by omega) (by omega)
    rw [if_pos h]
    refine c146.fok rfl (Cor.run (addC_good g_first (addC_good g_orderErr (addC_good g_unless (addC_good g_isHeight (noC_good _))))) (noHx_good _) hm ?_)
    simp +contextual -implicitDefEqProofs (maxSteps := 2000000) only [bg_eq, a146, x_isHeight, x_unless, x_orderErr, x_first, y_first, h, w, not_true_eq_false, ruB, rh_no, Int.reduceLT, Int.reduceLE, Int.reduceAdd, Int.reduceSub, Int.reduceMul, Int.reduceNeg, Int.reduceToNat, Int.reduceEq, Int.reduceNe, Int.reduceTDiv, Int.reduceTMod, implies_true, putL, appN, appX, appC, Eng.Fi, reduceCtorEq, exists_eq_left', exists_eq_left, if_true, if_false, List.replicate, Nat.reduceAdd, Nat.reduceSub, Nat.reduceMul, Nat.reduceLeDiff, Nat.reduceLT, Nat.reduceEqDiff]
  · rw [if_neg h]
    refine c146.fok rfl (Cor.run (addC_good g_first (addC_good g_orderErr (addC_good g_unless (addC_good g_isHeight (noC_good _))))) (noHx_good _) hm ?_)
    simp +contextual -implicitDefEqProofs (maxSteps := 2000000) only [bg_eq, a146, x_isHeight, x_unless, x_orderErr, x_first, y_first, h, not_false_eq_true, ruB, rh_no, Int.reduceLT, Int.reduceLE, Int.reduceAdd, Int.reduceSub, Int.reduceMul, Int.reduceNeg, Int.reduceToNat, Int.reduceEq, Int.reduceNe, Int.reduceTDiv, Int.reduceTMod, implies_true, putL, appN, appX, appC, Eng.Fi, reduceCtorEq, exists_eq_left', exists_eq_left, if_true, if_false, List.replicate, Nat.reduceAdd, Nat.reduceSub, Nat.reduceMul, Nat.reduceLeDiff, Nat.reduceLT, Nat.reduceEqDiff]
def cf_CheckSearch1 : List AV → Option AV
  | [.agg [.int .i64 a, .int .i64 b], .fn f [] []] => if f = 144 then some (I (arG (siR a ∧ siR b) a b)) else if f = 145 then some (I (arG (heR a ∧ heR b) a b)) else none
  | _ => none
theorem g_CheckSearch1 : Fn P 146 cf_CheckSearch1 := fun args v h => by
  unfold cf_CheckSearch1 at h; split at h
  · split at h
    · rename_i e; subst e; have h := Option.some.inj h; subst h; exact k_areaS _ _
    · split at h
      · rename_i e; subst e; have h := Option.some.inj h; subst h; exact k_areaH _ _
      · cases h
  · cases h
theorem x_areaS (a b : Int) : cf_CheckSearch1 [.agg [.int .i64 a, .int .i64 b], .fn 144 [] []] = some (I (arG (siR a ∧ siR b) a b)) := rfl
theorem x_areaH (a b : Int) : cf_CheckSearch1 [.agg [.int .i64 a, .int .i64 b], .fn 145 [] []] = some (I (arG (heR a ∧ heR b) a b)) := rfl
def stE (a n : Int) : Int := firstE [unl (1 ≤ n ∧ n ≤ 10000) 2, unl (a < n) 9]
def stG : Int → List Int → Int
  | _, [] => 0
  | a, n :: r => if stE a n = 0 then stG n r else stE a n
def stL : Int → List Int → Int
  | a, [] => a
  | a, n :: r => if stE a n = 0 then stL n r else n
def Js (a : Int) : List HEnt := [⟨0, 0, .rows 3 1 [I a]⟩]
theorem l_CheckSearch2 (n a : Int) : LOk P 149 [I n, .ptr 0 1 0 0] (Js a) 1 (I (stE a n)) (Js n) 1 := by
  refine c149.lok (Cor.post (Cor.run (addC_good g_first (addC_good g_unless (addC_good g_isStrength (noC_good _)))) (noHx_good _) hm ?_))
  simp +contextual -implicitDefEqProofs (maxSteps := 2000000) only [bg_eq, a149, x_isStrength, x_unless, x_first, y_first, stE, FinL, Js, ruB, rh_no, Int.reduceLT, Int.reduceLE, Int.reduceAdd, Int.reduceSub, Int.reduceMul, Int.reduceNeg, Int.reduceToNat, Int.reduceEq, Int.reduceNe, Int.reduceTDiv, Int.reduceTMod, implies_true, putL, appN, appX, appC, Eng.Fi, reduceCtorEq, exists_eq_left', exists_eq_left, if_true, if_false, List.replicate, Nat.reduceAdd, Nat.reduceSub, Nat.reduceMul, Nat.reduceLeDiff, Nat.reduceLT, Nat.reduceEqDiff]
  exact ⟨_, Wkn.to ⟨1, [], [], 1, [3]⟩ rfl rfl (by simp [Wk.st, keepT, memN, Wk.fate, Wk.fate0, assoc, getE, Wk.hp, ABlk.sub, sub1, subs]; rfl), _, rfl, rfl, rfl, rfl⟩
def ch_ : List AV → List HEnt → Nat → Option (AV × List HEnt × Nat)
  | [.int .i64 n, .ptr 0 1 0 0], [⟨0, 0, .rows 3 1 [.int .i64 a]⟩], 1 => some (I (stE a n), Js n, 1)
  | _, _, _ => none
theorem h_ch : Hn P 149 ch_ := fun args H nx v hp' nx' h => by
  unfold ch_ at h
  split at h
  · have h := Option.some.inj h
    simp only [Prod.mk.injEq] at h
    obtain ⟨rfl, rfl, rfl⟩ := h
    exact l_CheckSearch2 _ _
  · cases h
theorem y_ch (n a : Int) : ch_ [.int .i64 n, .ptr 0 1 0 0] [⟨0, 0, .rows 3 1 [.int .i64 a]⟩] 1 = some (I (stE a n), Js n, 1) := rfl
def S_eI (l : List Int) (q : Nat × Int) : AState := ⟨[.any, .fn 149 [] [.ptr 0 1 0 0], .any, .any, .any, .any, .any, .any, .vs (l.map eI), I l.length, I q.1, .any, .any, .any, .any, .any, .any, .any, .any, .any, .any], Js q.2, 1⟩
theorem l_eachI (l : List Int) (a0 : Int) (hl : l.length ≤ 1099511627776) : LOk P 148 [.vs (l.map eI), .fn 149 [] [.ptr 0 1 0 0]] (Js a0) 1 (I (stG a0 l)) (Js (stL a0 l)) 1 := by
  have hg := addH_good h_ch (noHx_good P)
  refine c148.lok (y := YH P (addH 149 ch_ noHx)) (Cor.run (noC_good _) hg hm ?_) (fun G => YH_add (by decide) (YH_no _ G))
  simp +contextual -implicitDefEqProofs (maxSteps := 2000000) only [bg_eq, a148, List.length_map, ruH, ruB, Int.reduceLT, Int.reduceLE, Int.reduceAdd, Int.reduceSub, Int.reduceMul, Int.reduceNeg, Int.reduceToNat, Int.reduceEq, Int.reduceNe, Int.reduceTDiv, Int.reduceTMod, implies_true, putL, appN, appX, appC, Eng.Fi, reduceCtorEq, exists_eq_left', exists_eq_left, if_true, if_false, List.replicate, Nat.reduceAdd, Nat.reduceSub, Nat.reduceMul, Nat.reduceLeDiff, Nat.reduceLT, Nat.reduceEqDiff]
  refine Cor.lp (noC_good _) hg hm (S_eI l) (fun q => q.1 ≤ l.length ∧ stG a0 l = stG q.2 (l.drop q.1) ∧ stL a0 l = stL q.2 (l.drop q.1)) (fun q => l.length - q.1) (a := (0, a0)) ⟨Nat.zero_le _, rfl, rfl⟩ (Wkn.keep [1, 8, 9, 10] rfl) ?_
  rintro f ⟨k, a⟩ ⟨hk, hf, hf2⟩ go
  simp only at hk hf hf2
  rcases Nat.lt_or_ge k l.length with h | h
  · have e1 : decide ((k : Int) < (l.length : Int)) = true := lt_t h
    have e2 : (l.map eI)[k]? = some (eI l[k]) := get_e eI l h
    have e3 : IntKind.wrap .i64 ((k : Int) + 1) = ((k + 1 : Nat) : Int) := suc_w (by omega)
    rw [List.drop_eq_getElem_cons h, stG] at hf
    rw [List.drop_eq_getElem_cons h, stL] at hf2
    generalize l[k] = n at *
    by_cases c1 : stE a n = 0
    · have c1' := eq_true c1
      rw [if_pos c1] at hf hf2
      simp +contextual -implicitDefEqProofs (maxSteps := 2000000) only [S_eI, Js, e1, e2, e3, y_ch, c1', not_true_eq_false, ruH, ruB, Int.reduceLT, Int.reduceLE, Int.reduceAdd, Int.reduceSub, Int.reduceMul, Int.reduceNeg, Int.reduceToNat, Int.reduceEq, Int.reduceNe, Int.reduceTDiv, Int.reduceTMod, implies_true, putL, appN, appX, appC, Eng.Fi, reduceCtorEq, exists_eq_left', exists_eq_left, if_true, if_false, List.replicate, Nat.reduceAdd, Nat.reduceSub, Nat.reduceMul, Nat.reduceLeDiff, Nat.reduceLT, Nat.reduceEqDiff]
      exact go _ (k + 1, n) ⟨h, hf, hf2⟩ (by simp only; omega) (Wkn.keep [1, 8, 9, 10] rfl)
    · have c1' := eq_false c1
      rw [if_neg c1] at hf hf2
      rw [hf, hf2]
      simp +contextual -implicitDefEqProofs (maxSteps := 2000000) only [S_eI, Js, e1, e2, e3, y_ch, c1', not_false_eq_true, FinL, ruH, ruB, Int.reduceLT, Int.reduceLE, Int.reduceAdd, Int.reduceSub, Int.reduceMul, Int.reduceNeg, Int.reduceToNat, Int.reduceEq, Int.reduceNe, Int.reduceTDiv, Int.reduceTMod, implies_true, putL, appN, appX, appC, Eng.Fi, reduceCtorEq, exists_eq_left', exists_eq_left, if_true, if_false, List.replicate, Nat.reduceAdd, Nat.reduceSub, Nat.reduceMul, Nat.reduceLeDiff, Nat.reduceLT, Nat.reduceEqDiff]
  · have e1 : decide ((k : Int) < (l.length : Int)) = false := lt_f h
    rw [List.drop_eq_nil_of_le h] at hf hf2
    rw [hf, hf2, stG, stL]
    simp +contextual -implicitDefEqProofs (maxSteps := 2000000) only [S_eI, Js, e1, FinL, ruH, ruB, Int.reduceLT, Int.reduceLE, Int.reduceAdd, Int.reduceSub, Int.reduceMul, Int.reduceNeg, Int.reduceToNat, Int.reduceEq, Int.reduceNe, Int.reduceTDiv, Int.reduceTMod, implies_true, putL, appN, appX, appC, Eng.Fi, reduceCtorEq, exists_eq_left', exists_eq_left, if_true, if_false, List.replicate, Nat.reduceAdd, Nat.reduceSub, Nat.reduceMul, Nat.reduceLeDiff, Nat.reduceLT, Nat.reduceEqDiff]
def ea_ : List AV → List HEnt → Nat → Option (AV × List HEnt × Nat)
  | [.vs us, .fn 149 [] [.ptr 0 1 0 0]], [⟨0, 0, .rows 3 1 [.int .i64 a]⟩], 1 => match decL decI us with
    | some l => if l.length ≤ 1099511627776 then some (I (stG a l), Js (stL a l), 1) else none
    | none => none
  | _, _, _ => none
theorem h_ea : Hn P 148 ea_ := fun args H nx v hp' nx' h => by
  unfold ea_ at h
  split at h
  · split at h
    · rename_i l hd
      split at h
      · rename_i hl
        have h := Option.some.inj h
        simp only [Prod.mk.injEq] at h
        obtain ⟨rfl, rfl, rfl⟩ := h
        rw [decL_inv decI eI (fun v x => decI_inv) hd]
        exact l_eachI _ _ hl
      · cases h
    · cases h
  · cases h
theorem y_ea (l : List Int) (a : Int) (h : l.length ≤ 1099511627776) : ea_ [.vs (l.map eI), .fn 149 [] [.ptr 0 1 0 0]] [⟨0, 0, .rows 3 1 [.int .i64 a]⟩] 1 = some (I (stG a l), Js (stL a l), 1) := by
  simp only [ea_, decL_map decI eI decI_I]
  rw [if_pos h]
def s1E (x : Sr) : Int := firstE [arG (siR x.yl ∧ siR x.yh) x.yl x.yh, arG (heR x.zl ∧ heR x.zh) x.zl x.zh, unl (1 ≤ x.h ∧ x.h ≤ 100) 2, unl (0 < (x.st.length : Int)) 10, unl ((x.st.length : Int) ≤ 6) 8]
def srE (x : Sr) : Int := if s1E x = 0 then firstE [stG 0 x.st, suE x.su, rsE x.rd] else s1E x
def S_cs (x : Sr) : AState := ⟨[.any, .vp [eSr x] 0 0, .any, .any, .any, .any, .any, .any, .any, .any, .any, .any, .any, .any, .any, .any, .any, .any, .any, .any, .any, .any, .any, .any, .any, .any, .any, .any, .any, .any, .any, .any, .any, .any, .any, .any, .any, .any, .any, .any, .any, .any, .any, .any, .any, .any], [], 0⟩
def S_cs2 (x : Sr) : AState := ⟨[.any, .vp [eSr x] 0 0, .any, .any, .any, .any, .ptr 0 1 0 0, .any, .any, .any, .any, .any, .any, .any, .any, .any, .any, .any, .any, .any, .any, .any, .any, .any, .any, .any, .any, .any, .any, .any, .any, .any, .any, .any, .any, .any, .any, .any, .any, .any, .any, .any, .any, .any, .any, .any], Js 0, 1⟩
theorem k_CheckSearch (x : Sr) : FOk P 120 [eSr x] (I (srE x)) := by
  have y1 := x_areaS x.yl x.yh
  have y2 := x_areaH x.zl x.zh
  have y3 := x_setupErr x.su.y x.su.z x.su.c
  have y4 := x_readingsErr x.rd
  have e2 : suE ⟨x.su.y, x.su.z, x.su.c⟩ = suE x.su := rfl
  rw [e2] at y3
  have hg := addH_good h_ea (noHx_good P)
  by_cases h0 : s1E x = 0
  · have h1 := h0
    unfold s1E at h1
    have hl : (x.st.length : Int) ≤ 6 := unl_zero (firstE_zero h1 (unl ((x.st.length : Int) ≤ 6) 8) (by simp)) (by decide)
    have ye := y_ea x.st 0 (by omega)
    rw [srE, if_pos h0]
    refine c120.fok (y := YH P (addH 148 ea_ noHx)) (by simp only [subs, sub1, free_I, free_Rg]) ?_ (fun G => YH_add (by decide) (YH_no _ G))
    rw [bg_eq]
    refine Cor.seq (Cor.run (noC_good _) hg hm ?_)
    simp +contextual -implicitDefEqProofs (maxSteps := 2000000) only [eThen_normal, ruH, ruB, Int.reduceLT, Int.reduceLE, Int.reduceAdd, Int.reduceSub, Int.reduceMul, Int.reduceNeg, Int.reduceToNat, Int.reduceEq, Int.reduceNe, Int.reduceTDiv, Int.reduceTMod, implies_true, putL, appN, appX, appC, Eng.Fi, reduceCtorEq, exists_eq_left', exists_eq_left, if_true, if_false, List.replicate, Nat.reduceAdd, Nat.reduceSub, Nat.reduceMul, Nat.reduceLeDiff, Nat.reduceLT, Nat.reduceEqDiff]
    refine Cor.wk (s2 := S_cs x) (Wkn.to ⟨0, [], [0], 0, [1]⟩ rfl rfl (by simp [Wk.st, keepT, memN, Wk.fate, Wk.fate0, assoc, getE, Wk.hp, ABlk.sub, sub1, subs, free_I, free_Rg, S_cs])) ?_
    refine Cor.seq (Cor.run (noC_good _) hg hm ?_)
    simp +contextual -implicitDefEqProofs (maxSteps := 2000000) only [S_cs, eThen_normal, ruH, ruB, Int.reduceLT, Int.reduceLE, Int.reduceAdd, Int.reduceSub, Int.reduceMul, Int.reduceNeg, Int.reduceToNat, Int.reduceEq, Int.reduceNe, Int.reduceTDiv, Int.reduceTMod, implies_true, putL, appN, appX, appC, Eng.Fi, reduceCtorEq, exists_eq_left', exists_eq_left, if_true, if_false, List.replicate, Nat.reduceAdd, Nat.reduceSub, Nat.reduceMul, Nat.reduceLeDiff, Nat.reduceLT, Nat.reduceEqDiff]
    refine Cor.seq (Cor.run (noC_good _) hg hm ?_)
    simp +contextual -implicitDefEqProofs (maxSteps := 2000000) only [List.length_map, eThen_normal, ruH, ruB, Int.reduceLT, Int.reduceLE, Int.reduceAdd, Int.reduceSub, Int.reduceMul, Int.reduceNeg, Int.reduceToNat, Int.reduceEq, Int.reduceNe, Int.reduceTDiv, Int.reduceTMod, implies_true, putL, appN, appX, appC, Eng.Fi, reduceCtorEq, exists_eq_left', exists_eq_left, if_true, if_false, List.replicate, Nat.reduceAdd, Nat.reduceSub, Nat.reduceMul, Nat.reduceLeDiff, Nat.reduceLT, Nat.reduceEqDiff]
    refine Cor.seq (Cor.run (addC_good g_first (addC_good g_unless (addC_good g_isHalf (addC_good g_CheckSearch1 (noC_good _))))) hg hm ?_)
    simp +contextual -implicitDefEqProofs (maxSteps := 2000000) only [y1, y2, x_isHalf, x_unless, x_first, y_first, h1, List.length_map, eThen_normal, not_true_eq_false, ruH, ruB, Int.reduceLT, Int.reduceLE, Int.reduceAdd, Int.reduceSub, Int.reduceMul, Int.reduceNeg, Int.reduceToNat, Int.reduceEq, Int.reduceNe, Int.reduceTDiv, Int.reduceTMod, implies_true, putL, appN, appX, appC, Eng.Fi, reduceCtorEq, exists_eq_left', exists_eq_left, if_true, if_false, List.replicate, Nat.reduceAdd, Nat.reduceSub, Nat.reduceMul, Nat.reduceLeDiff, Nat.reduceLT, Nat.reduceEqDiff]
    refine Cor.seq (Cor.run (noC_good _) hg hm ?_)
    simp +contextual -implicitDefEqProofs (maxSteps := 2000000) only [h1, eThen_normal, not_true_eq_false, ruH, ruB, Int.reduceLT, Int.reduceLE, Int.reduceAdd, Int.reduceSub, Int.reduceMul, Int.reduceNeg, Int.reduceToNat, Int.reduceEq, Int.reduceNe, Int.reduceTDiv, Int.reduceTMod, implies_true, putL, appN, appX, appC, Eng.Fi, reduceCtorEq, exists_eq_left', exists_eq_left, if_true, if_false, List.replicate, Nat.reduceAdd, Nat.reduceSub, Nat.reduceMul, Nat.reduceLeDiff, Nat.reduceLT, Nat.reduceEqDiff]
    refine Cor.seq (Cor.run (noC_good _) hg hm ?_)
    simp +contextual -implicitDefEqProofs (maxSteps := 2000000) only [eThen_normal, ruH, ruB, Int.reduceLT, Int.reduceLE, Int.reduceAdd, Int.reduceSub, Int.reduceMul, Int.reduceNeg, Int.reduceToNat, Int.reduceEq, Int.reduceNe, Int.reduceTDiv, Int.reduceTMod, implies_true, putL, appN, appX, appC, Eng.Fi, reduceCtorEq, exists_eq_left', exists_eq_left, if_true, if_false, List.replicate, Nat.reduceAdd, Nat.reduceSub, Nat.reduceMul, Nat.reduceLeDiff, Nat.reduceLT, Nat.reduceEqDiff]
    refine Cor.wk (s2 := S_cs2 x) (Wkn.to ⟨0, [(0, 0)], [], 1, [1, 6]⟩ rfl rfl (by simp [Wk.st, keepT, memN, Wk.fate, Wk.fate0, assoc, getE, Wk.hp, ABlk.sub, sub1, subs, free_I, free_Rg, S_cs2, Js])) ?_
    refine Cor.run (addC_good g_first (addC_good g_readingsErr (addC_good g_setupErr (noC_good _)))) hg hm ?_
    simp +contextual -implicitDefEqProofs (maxSteps := 2000000) only [S_cs2, Js, ye, y3, y4, x_first, y_first, free_I, free_Rg, ruH, ruB, Int.reduceLT, Int.reduceLE, Int.reduceAdd, Int.reduceSub, Int.reduceMul, Int.reduceNeg, Int.reduceToNat, Int.reduceEq, Int.reduceNe, Int.reduceTDiv, Int.reduceTMod, implies_true, putL, appN, appX, appC, Eng.Fi, reduceCtorEq, exists_eq_left', exists_eq_left, if_true, if_false, List.replicate, Nat.reduceAdd, Nat.reduceSub, Nat.reduceMul, Nat.reduceLeDiff, Nat.reduceLT, Nat.reduceEqDiff]
  · rw [srE, if_neg h0]
    unfold s1E at h0 ⊢
    refine c120.fok (by simp only [subs, sub1, free_I, free_Rg]) (Cor.run (addC_good g_first (addC_good g_unless (addC_good g_isHalf (addC_good g_CheckSearch1 (noC_good _))))) (noHx_good _) hm ?_)
    simp +contextual -implicitDefEqProofs (maxSteps := 2000000) only [bg_eq, a120, y1, y2, x_isHalf, x_unless, x_first, y_first, h0, List.length_map, not_false_eq_true, ruB, rh_no, Int.reduceLT, Int.reduceLE, Int.reduceAdd, Int.reduceSub, Int.reduceMul, Int.reduceNeg, Int.reduceToNat, Int.reduceEq, Int.reduceNe, Int.reduceTDiv, Int.reduceTMod, implies_true, putL, appN, appX, appC, Eng.Fi, reduceCtorEq, exists_eq_left', exists_eq_left, if_true, if_false, List.replicate, Nat.reduceAdd, Nat.reduceSub, Nat.reduceMul, Nat.reduceLeDiff, Nat.reduceLT, Nat.reduceEqDiff]
noncomputable def cf_CheckSearch : List AV → Option AV
  | [x_v] => onSr x_v fun x => some (I (srE x))
  | _ => none
theorem g_CheckSearch : Fn P 120 cf_CheckSearch := fun args v hh => by
  unfold cf_CheckSearch at hh; split at hh
  · obtain ⟨x, rfl, hh1⟩ := onSr_inv hh
    have hk := Option.some.inj hh1; subst hk; exact k_CheckSearch _
  · cases hh
theorem x_CheckSearch (x : Sr) : cf_CheckSearch [eSr x] = some (I (srE x)) := by
  simp only [cf_CheckSearch, onSr_e]
end Wa
open Go Go.Proofs Eng
set_option maxRecDepth 100000
set_option linter.unusedSimpArgs false
set_option linter.unusedVariables false
namespace Wa
def pS (x : Sr) (y z : Int) (l : List Int) : List Pa := l.map fun n => ⟨y, z, x.h, n⟩
def pZ (x : Sr) (y : Int) : Nat → Int → List Pa
  | 0, _ => []
  | k + 1, z => pS x y z x.st ++ pZ x y k (z + 1)
def pY (x : Sr) : Nat → Int → List Pa
  | 0, _ => []
  | k + 1, y => pZ x y (x.zh + 1 - x.zl).toNat x.zl ++ pY x k (y + 1)
def prL (x : Sr) : List Pa := pY x (x.yh + 1 - x.yl).toNat x.yl
abbrev eY (x : Sr) (p : Pa) : List AV := [ePa p, I (mfV p x.su x.rd)]
theorem stG_z : ∀ {l : List Int} {a : Int}, stG a l = 0 → ∀ n ∈ l, 1 ≤ n ∧ n ≤ 10000
  | [], _, _, n, h => by simp at h
  | x :: l, a, h, n, hn => by
    rw [stG] at h
    split at h
    · rename_i hx
      rcases List.mem_cons.1 hn with rfl | hn
      · exact unl_zero (firstE_zero hx (unl (1 ≤ n ∧ n ≤ 10000) 2) (by simp)) (by decide)
      · exact stG_z h n hn
    · rename_i hx; exact absurd h hx
/-- what is known of a search without an error -/
structure srR (x : Sr) : Prop where
  y : (-1000 ≤ x.yl ∧ x.yl ≤ x.yh) ∧ x.yh ≤ 1000 ∧ x.yh - x.yl ≤ 12
  z : (0 ≤ x.zl ∧ x.zl ≤ x.zh) ∧ x.zh ≤ 1000 ∧ x.zh - x.zl ≤ 12
  h : 1 ≤ x.h ∧ x.h ≤ 100
  n : 0 < x.st.length ∧ x.st.length ≤ 6
  s : stG 0 x.st = 0
  su : suR x.su
  rd : x.rd.length ≤ 12 ∧ ∀ r ∈ x.rd, rgR r
theorem arG_z {p : Prop} [Decidable p] {a b : Int} (h : arG p a b = 0) : p ∧ a ≤ b ∧ b - a ≤ 12 := by
  unfold arG at h
  split at h
  · rename_i h0
    have := ar_sm h0
    exact ⟨this.1, this.2, unl_zero h (by decide)⟩
  · rename_i h0; exact absurd h h0
theorem srE_z {x : Sr} (h : srE x = 0) : srR x := by
  unfold srE at h
  split at h
  · rename_i h0
    have z := firstE_zero h0
    have a1 := arG_z (z (arG (siR x.yl ∧ siR x.yh) x.yl x.yh) (by simp))
    have a2 := arG_z (z (arG (heR x.zl ∧ heR x.zh) x.zl x.zh) (by simp))
    have a3 := unl_zero (z (unl (1 ≤ x.h ∧ x.h ≤ 100) 2) (by simp)) (by decide)
    have a4 := unl_zero (z (unl (0 < (x.st.length : Int)) 10) (by simp)) (by decide)
    have a5 := unl_zero (z (unl ((x.st.length : Int) ≤ 6) 8) (by simp)) (by decide)
    have z2 := firstE_zero h
    unfold siR at a1
    unfold heR at a2
    exact ⟨by omega, by omega, a3, by omega, z2 (stG 0 x.st) (by simp), suE_z (z2 (suE x.su) (by simp)), rsE_z (z2 (rsE x.rd) (by simp))⟩
  · rename_i h0; exact absurd h h0
theorem sr_mf {x : Sr} (hr : srR x) {y z n : Int} (hy : x.yl ≤ y ∧ y ≤ x.yh) (hz : x.zl ≤ z ∧ z ≤ x.zh) (hn : n ∈ x.st) : mfB ⟨y, z, x.h, n⟩ x.su x.rd := by
  have h1 := stG_z hr.s n hn
  have := hr.y
  have := hr.z
  have := hr.h
  have := hr.rd
  refine ⟨?_, hr.su, by omega, hr.rd.2⟩
  unfold paB ptR siR heR
  simp only
  omega
theorem suY : chkF Try.prog 151 10 8 = true := by kernel_rfl
def S_p1 (x : Sr) (t : Nat) (q : Int × List HEnt × Nat) : AState := ⟨[.yield t, .vp [eSr x] 0 0, .any, I q.1, .any, .any, .any, .any, .any, .any, .any, .any, .any, .any, .any, .any, .any, .any, .any, .any, .any, .any, .any, .any, .any, .any, .any, .any, .any, .any, .any, .any, .any, .any, .any, .any, .any, .any, .any, .any, .any, .any, .any, .any, .any, .any, .any, .any, .any, .any, .any, .any, .any], q.2.1, q.2.2⟩
def S_p2 (x : Sr) (t : Nat) (y : Int) (q : Int × List HEnt × Nat) : AState := ⟨[.yield t, .vp [eSr x] 0 0, .any, I y, I q.1, .any, .any, .any, .any, .any, .any, .any, .any, .any, .any, .any, .any, .any, .any, .any, .any, .any, .any, .any, .any, .any, .any, .any, .any, .any, .any, .any, .any, .any, .any, .any, .any, .any, .any, .any, .any, .any, .any, .any, .any, .any, .any, .any, .any, .any, .any, .any, .any], q.2.1, q.2.2⟩
def S_p3 (x : Sr) (t : Nat) (y z : Int) (q : Nat × List HEnt × Nat) : AState := ⟨[.yield t, .vp [eSr x] 0 0, .any, I y, I z, .any, .any, .any, .any, .any, .any, .any, .any, .any, .any, .any, .any, .any, .any, .any, .any, .any, .any, .any, .any, .any, .any, .any, .any, .vs (x.st.map eI), I x.st.length, I q.1, .any, .any, .any, .any, .any, .any, .any, .any, .any, .any, .any, .any, .any, .any, .any, .any, .any, .any, .any, .any, .any], q.2.1, q.2.2⟩
def S_p4 (x : Sr) (t : Nat) (y z : Int) (k : Nat) (p : Pa) (h : List HEnt) (N : Nat) : AState := ⟨[.yield t, .vp [eSr x] 0 0, .any, I y, I z, .any, .any, .any, .any, .any, .any, .any, .any, .any, .any, .any, .any, .any, .any, .any, .any, .any, .any, .any, .any, .any, .any, .any, .any, .vs (x.st.map eI), I x.st.length, I k, .any, .any, .any, .any, .any, .any, .any, .any, .any, .any, .yield t, ePa p, .any, .any, .any, .any, .any, I (mfV p x.su x.rd), .any, .any, .any], h, N⟩
set_option maxHeartbeats 1000000 in
theorem sqPairs (x : Sr) (hr : srR x) : SeqL P 151 [] [.vp [eSr x] 0 0] ((prL x).map (eY x)) := by
  intro hx t N0 M hp fin htN hn hd
  have hg := HGood_y (P := P) hn
  have by_ := hr.y
  have bz_ := hr.z
  have hn1 : x.st.length ≤ 6 := hr.n.2
  refine c151.lokyS suY (y := YH P hx) (CorS.seq (CorS.of (Cor.run (noC_good _) hg hm ?_)))
  simp +contextual -implicitDefEqProofs (maxSteps := 2000000) only [bg_eq, eThen_normal, ruH, ruB, Int.reduceLT, Int.reduceLE, Int.reduceAdd, Int.reduceSub, Int.reduceMul, Int.reduceNeg, Int.reduceToNat, Int.reduceEq, Int.reduceNe, Int.reduceTDiv, Int.reduceTMod, implies_true, putL, appN, appX, appC, Eng.Fi, reduceCtorEq, exists_eq_left', exists_eq_left, if_true, if_false, List.replicate, Nat.reduceAdd, Nat.reduceSub, Nat.reduceMul, Nat.reduceLeDiff, Nat.reduceLT, Nat.reduceEqDiff]
  refine CorS.block (CorS.loopC (S_p1 x t) (fun q => (x.yl ≤ q.1 ∧ q.1 ≤ x.yh + 1) ∧ DrvL hx t N0 q.2.1 q.2.2 ((pY x (x.yh + 1 - q.1).toNat q.1).map (eY x)) fin M) (fun q => (x.yh + 1 - q.1).toNat) (a := (x.yl, hp, N0)) ?_ ⟨⟨Int.le_refl _, by omega⟩, hd⟩ (Wkn.keep [0, 1, 3] rfl))
  rintro ⟨y, h1, N1⟩ ⟨⟨hy1, hy2⟩, hD⟩
  simp only at hy1 hy2 hD
  have wy : IntKind.wrap .i64 (y + 1) = y + 1 := wrap64 (by omega) (by omega)
  by_cases hy : y ≤ x.yh
  · have hy' := eq_true hy
    have ey : (x.yh + 1 - y).toNat = (x.yh + 1 - (y + 1)).toNat + 1 := by omega
    rw [ey, pY] at hD
    refine CorS.seq (CorS.of (Cor.run (noC_good _) hg hm ?_))
    simp +contextual -implicitDefEqProofs (maxSteps := 2000000) only [S_p1, hy', eThen_normal, ruH, ruB, Int.reduceLT, Int.reduceLE, Int.reduceAdd, Int.reduceSub, Int.reduceMul, Int.reduceNeg, Int.reduceToNat, Int.reduceEq, Int.reduceNe, Int.reduceTDiv, Int.reduceTMod, implies_true, putL, appN, appX, appC, Eng.Fi, reduceCtorEq, exists_eq_left', exists_eq_left, if_true, if_false, List.replicate, Nat.reduceAdd, Nat.reduceSub, Nat.reduceMul, Nat.reduceLeDiff, Nat.reduceLT, Nat.reduceEqDiff]
    refine CorS.seq (CorS.block (CorS.seq (CorS.of (Cor.run (noC_good _) hg hm ?_))))
    simp +contextual -implicitDefEqProofs (maxSteps := 2000000) only [eThen_normal, ruH, ruB, Int.reduceLT, Int.reduceLE, Int.reduceAdd, Int.reduceSub, Int.reduceMul, Int.reduceNeg, Int.reduceToNat, Int.reduceEq, Int.reduceNe, Int.reduceTDiv, Int.reduceTMod, implies_true, putL, appN, appX, appC, Eng.Fi, reduceCtorEq, exists_eq_left', exists_eq_left, if_true, if_false, List.replicate, Nat.reduceAdd, Nat.reduceSub, Nat.reduceMul, Nat.reduceLeDiff, Nat.reduceLT, Nat.reduceEqDiff]
    refine CorS.block (CorS.loopC (S_p2 x t y) (fun q => (x.zl ≤ q.1 ∧ q.1 ≤ x.zh + 1) ∧ DrvL hx t N0 q.2.1 q.2.2 ((pZ x y (x.zh + 1 - q.1).toNat q.1 ++ pY x (x.yh + 1 - (y + 1)).toNat (y + 1)).map (eY x)) fin M) (fun q => (x.zh + 1 - q.1).toNat) (a := (x.zl, h1, N1)) ?_ ⟨⟨Int.le_refl _, by omega⟩, hD⟩ (Wkn.keep [0, 1, 3, 4] rfl))
    rintro ⟨z, h2, N2⟩ ⟨⟨hz1, hz2⟩, hD⟩
    simp only at hz1 hz2 hD
    have wz : IntKind.wrap .i64 (z + 1) = z + 1 := wrap64 (by omega) (by omega)
    by_cases hz : z ≤ x.zh
    · have hz' := eq_true hz
      have ez : (x.zh + 1 - z).toNat = (x.zh + 1 - (z + 1)).toNat + 1 := by omega
      rw [ez, pZ, List.append_assoc] at hD
      generalize hrest : pZ x y (x.zh + 1 - (z + 1)).toNat (z + 1) ++ pY x (x.yh + 1 - (y + 1)).toNat (y + 1) = rest at *
      refine CorS.seq (CorS.of (Cor.run (noC_good _) hg hm ?_))
      simp +contextual -implicitDefEqProofs (maxSteps := 2000000) only [S_p2, hz', eThen_normal, ruH, ruB, Int.reduceLT, Int.reduceLE, Int.reduceAdd, Int.reduceSub, Int.reduceMul, Int.reduceNeg, Int.reduceToNat, Int.reduceEq, Int.reduceNe, Int.reduceTDiv, Int.reduceTMod, implies_true, putL, appN, appX, appC, Eng.Fi, reduceCtorEq, exists_eq_left', exists_eq_left, if_true, if_false, List.replicate, Nat.reduceAdd, Nat.reduceSub, Nat.reduceMul, Nat.reduceLeDiff, Nat.reduceLT, Nat.reduceEqDiff]
      refine CorS.seq (CorS.block (CorS.seq (CorS.of (Cor.run (noC_good _) hg hm ?_))))
      simp +contextual -implicitDefEqProofs (maxSteps := 2000000) only [List.length_map, eThen_normal, ruH, ruB, Int.reduceLT, Int.reduceLE, Int.reduceAdd, Int.reduceSub, Int.reduceMul, Int.reduceNeg, Int.reduceToNat, Int.reduceEq, Int.reduceNe, Int.reduceTDiv, Int.reduceTMod, implies_true, putL, appN, appX, appC, Eng.Fi, reduceCtorEq, exists_eq_left', exists_eq_left, if_true, if_false, List.replicate, Nat.reduceAdd, Nat.reduceSub, Nat.reduceMul, Nat.reduceLeDiff, Nat.reduceLT, Nat.reduceEqDiff]
      refine CorS.block (CorS.loopC (S_p3 x t y z) (fun q => q.1 ≤ x.st.length ∧ DrvL hx t N0 q.2.1 q.2.2 ((pS x y z (x.st.drop q.1) ++ rest).map (eY x)) fin M) (fun q => x.st.length - q.1) (a := (0, h2, N2)) ?_ ⟨Nat.zero_le _, hD⟩ (Wkn.keep [0, 1, 3, 4, 29, 30, 31] rfl))
      rintro ⟨k, h3, N3⟩ ⟨hk, hD⟩
      simp only at hk hD
      rcases Nat.lt_or_ge k x.st.length with h | h
      · have e1 : decide ((k : Int) < (x.st.length : Int)) = true := lt_t h
        have e2 : (x.st.map eI)[k]? = some (eI x.st[k]) := get_e eI x.st h
        have e3 : IntKind.wrap .i64 ((k : Int) + 1) = ((k + 1 : Nat) : Int) := suc_w (by omega)
        have hmem : x.st[k] ∈ x.st := List.getElem_mem h
        rw [List.drop_eq_getElem_cons h, pS, List.map_cons, List.cons_append, List.map_cons] at hD
        have hmf := sr_mf hr ⟨hy1, hy⟩ ⟨hz1, hz⟩ hmem
        generalize x.st[k] = n at *
        obtain ⟨⟨hNN, hlow⟩, bb, h', N', hyy, hc, hf⟩ := hD
        have htlt : t < N3 := by omega
        have ym := x_misfit ⟨y, z, x.h, n⟩ x.su x.rd (by simp only [hmf])
        refine CorS.seq (CorS.of (Cor.run (noC_good _) hg hm ?_))
        simp +contextual -implicitDefEqProofs (maxSteps := 2000000) only [S_p3, e1, eThen_normal, ruH, ruB, Int.reduceLT, Int.reduceLE, Int.reduceAdd, Int.reduceSub, Int.reduceMul, Int.reduceNeg, Int.reduceToNat, Int.reduceEq, Int.reduceNe, Int.reduceTDiv, Int.reduceTMod, implies_true, putL, appN, appX, appC, Eng.Fi, reduceCtorEq, exists_eq_left', exists_eq_left, if_true, if_false, List.replicate, Nat.reduceAdd, Nat.reduceSub, Nat.reduceMul, Nat.reduceLeDiff, Nat.reduceLT, Nat.reduceEqDiff]
        refine CorS.seq (CorS.of (Cor.run (noC_good _) hg hm ?_))
        simp +contextual -implicitDefEqProofs (maxSteps := 2000000) only [eThen_normal, ruH, ruB, Int.reduceLT, Int.reduceLE, Int.reduceAdd, Int.reduceSub, Int.reduceMul, Int.reduceNeg, Int.reduceToNat, Int.reduceEq, Int.reduceNe, Int.reduceTDiv, Int.reduceTMod, implies_true, putL, appN, appX, appC, Eng.Fi, reduceCtorEq, exists_eq_left', exists_eq_left, if_true, if_false, List.replicate, Nat.reduceAdd, Nat.reduceSub, Nat.reduceMul, Nat.reduceLeDiff, Nat.reduceLT, Nat.reduceEqDiff]
        refine CorS.seq (CorS.block (CorS.seq (CorS.of (Cor.run (noC_good _) hg hm ?_))))
        simp +contextual -implicitDefEqProofs (maxSteps := 2000000) only [e2, eThen_normal, ruH, ruB, Int.reduceLT, Int.reduceLE, Int.reduceAdd, Int.reduceSub, Int.reduceMul, Int.reduceNeg, Int.reduceToNat, Int.reduceEq, Int.reduceNe, Int.reduceTDiv, Int.reduceTMod, implies_true, putL, appN, appX, appC, Eng.Fi, reduceCtorEq, exists_eq_left', exists_eq_left, if_true, if_false, List.replicate, Nat.reduceAdd, Nat.reduceSub, Nat.reduceMul, Nat.reduceLeDiff, Nat.reduceLT, Nat.reduceEqDiff]
        refine CorS.seq (CorS.of (Cor.run (noC_good _) hg hm ?_))
        simp +contextual -implicitDefEqProofs (maxSteps := 2000000) only [eThen_normal, ruH, ruB, Int.reduceLT, Int.reduceLE, Int.reduceAdd, Int.reduceSub, Int.reduceMul, Int.reduceNeg, Int.reduceToNat, Int.reduceEq, Int.reduceNe, Int.reduceTDiv, Int.reduceTMod, implies_true, putL, appN, appX, appC, Eng.Fi, reduceCtorEq, exists_eq_left', exists_eq_left, if_true, if_false, List.replicate, Nat.reduceAdd, Nat.reduceSub, Nat.reduceMul, Nat.reduceLeDiff, Nat.reduceLT, Nat.reduceEqDiff]
        have hsb : ∀ k, Eng.setB h3 N3 N3 k = h3 := fun k => setB_free fun e he => by have := (hlow e he).1.2; omega
        refine CorS.seq (CorS.opsD ((addC_good g_misfit (noC_good _)) : Good P _) hg hm rfl (by decide) ?_)
        simp +contextual -implicitDefEqProofs (maxSteps := 2000000) only [List.filter_cons, List.filter_nil, ym, hsb, okN, ruH, ruB, Int.reduceLT, Int.reduceLE, Int.reduceAdd, Int.reduceSub, Int.reduceMul, Int.reduceNeg, Int.reduceToNat, Int.reduceEq, Int.reduceNe, Int.reduceTDiv, Int.reduceTMod, implies_true, putL, appN, appX, appC, Eng.Fi, reduceCtorEq, exists_eq_left', exists_eq_left, if_true, if_false, List.replicate, Nat.reduceAdd, Nat.reduceSub, Nat.reduceMul, Nat.reduceLeDiff, Nat.reduceLT, Nat.reduceEqDiff]
        refine ⟨S_p4 x t y z k ⟨y, z, x.h, n⟩ h3 N3, Wkn.lowle hNN (A := [⟨N3, N3, .rows 108 4 [ePa ⟨y, z, x.h, n⟩]⟩]) [] [0, 1, 3, 4, 29, 30, 31, 42, 43, 49] ?_ hlow ?_, ?_⟩
        · simp
        · simp [keepT, memN, sub1, subs, free_I, free_Rg, S_p4, Wk.fate, htlt]
        · cases bb with
          | true =>
            simp +contextual -implicitDefEqProofs (maxSteps := 2000000) only [S_p4, hg_cons, hg_nil, hg_n, h_callv, callT_y, hyy, eThen_normal, ruH, ruB, Int.reduceLT, Int.reduceLE, Int.reduceAdd, Int.reduceSub, Int.reduceMul, Int.reduceNeg, Int.reduceToNat, Int.reduceEq, Int.reduceNe, Int.reduceTDiv, Int.reduceTMod, implies_true, putL, appN, appX, appC, Eng.Fi, reduceCtorEq, exists_eq_left', exists_eq_left, if_true, if_false, List.replicate, Nat.reduceAdd, Nat.reduceSub, Nat.reduceMul, Nat.reduceLeDiff, Nat.reduceLT, Nat.reduceEqDiff]
            refine CorS.of (Cor.run (noC_good _) hg hm ?_)
            simp +contextual -implicitDefEqProofs (maxSteps := 2000000) only [eBlk_normal, eThen_normal, ruH, ruB, Int.reduceLT, Int.reduceLE, Int.reduceAdd, Int.reduceSub, Int.reduceMul, Int.reduceNeg, Int.reduceToNat, Int.reduceEq, Int.reduceNe, Int.reduceTDiv, Int.reduceTMod, implies_true, putL, appN, appX, appC, Eng.Fi, reduceCtorEq, exists_eq_left', exists_eq_left, if_true, if_false, List.replicate, Nat.reduceAdd, Nat.reduceSub, Nat.reduceMul, Nat.reduceLeDiff, Nat.reduceLT, Nat.reduceEqDiff]
            refine CorS.of (Cor.run (noC_good _) hg hm ?_)
            simp +contextual -implicitDefEqProofs (maxSteps := 2000000) only [e3, eThen_normal, ruH, ruB, Int.reduceLT, Int.reduceLE, Int.reduceAdd, Int.reduceSub, Int.reduceMul, Int.reduceNeg, Int.reduceToNat, Int.reduceEq, Int.reduceNe, Int.reduceTDiv, Int.reduceTMod, implies_true, putL, appN, appX, appC, Eng.Fi, reduceCtorEq, exists_eq_left', exists_eq_left, if_true, if_false, List.replicate, Nat.reduceAdd, Nat.reduceSub, Nat.reduceMul, Nat.reduceLeDiff, Nat.reduceLT, Nat.reduceEqDiff]
            exact ⟨(k + 1, h', N'), ⟨h, hc rfl⟩, by simp only; omega, Wkn.keep [0, 1, 3, 4, 29, 30, 31] rfl⟩
          | false =>
            simp +contextual -implicitDefEqProofs (maxSteps := 2000000) only [S_p4, hg_cons, hg_nil, hg_n, h_callv, callT_y, hyy, eThen_normal, ruH, ruB, Int.reduceLT, Int.reduceLE, Int.reduceAdd, Int.reduceSub, Int.reduceMul, Int.reduceNeg, Int.reduceToNat, Int.reduceEq, Int.reduceNe, Int.reduceTDiv, Int.reduceTMod, implies_true, putL, appN, appX, appC, Eng.Fi, reduceCtorEq, exists_eq_left', exists_eq_left, if_true, if_false, List.replicate, Nat.reduceAdd, Nat.reduceSub, Nat.reduceMul, Nat.reduceLeDiff, Nat.reduceLT, Nat.reduceEqDiff]
            refine CorS.of (Cor.run (noC_good _) hg hm ?_)
            simp +contextual -implicitDefEqProofs (maxSteps := 2000000) only [eThen_ret, eBlk_ret, FinL, ruH, ruB, Int.reduceLT, Int.reduceLE, Int.reduceAdd, Int.reduceSub, Int.reduceMul, Int.reduceNeg, Int.reduceToNat, Int.reduceEq, Int.reduceNe, Int.reduceTDiv, Int.reduceTMod, implies_true, putL, appN, appX, appC, Eng.Fi, reduceCtorEq, exists_eq_left', exists_eq_left, if_true, if_false, List.replicate, Nat.reduceAdd, Nat.reduceSub, Nat.reduceMul, Nat.reduceLeDiff, Nat.reduceLT, Nat.reduceEqDiff]
            exact ⟨(hf rfl).1.symm, (hf rfl).2.symm⟩
      · have e1 : decide ((k : Int) < (x.st.length : Int)) = false := lt_f h
        rw [List.drop_eq_nil_of_le h] at hD
        refine CorS.seq (CorS.of (Cor.run (noC_good _) hg hm ?_))
        simp +contextual -implicitDefEqProofs (maxSteps := 2000000) only [S_p3, e1, eThen_normal, ruH, ruB, Int.reduceLT, Int.reduceLE, Int.reduceAdd, Int.reduceSub, Int.reduceMul, Int.reduceNeg, Int.reduceToNat, Int.reduceEq, Int.reduceNe, Int.reduceTDiv, Int.reduceTMod, implies_true, putL, appN, appX, appC, Eng.Fi, reduceCtorEq, exists_eq_left', exists_eq_left, if_true, if_false, List.replicate, Nat.reduceAdd, Nat.reduceSub, Nat.reduceMul, Nat.reduceLeDiff, Nat.reduceLT, Nat.reduceEqDiff]
        refine CorS.seq (CorS.of (Cor.run (noC_good _) hg hm ?_))
        simp +contextual -implicitDefEqProofs (maxSteps := 2000000) only [eThen_exit, eBlk_exit, eThen_normal, eBlk_normal, ruH, ruB, Int.reduceLT, Int.reduceLE, Int.reduceAdd, Int.reduceSub, Int.reduceMul, Int.reduceNeg, Int.reduceToNat, Int.reduceEq, Int.reduceNe, Int.reduceTDiv, Int.reduceTMod, implies_true, putL, appN, appX, appC, Eng.Fi, reduceCtorEq, exists_eq_left', exists_eq_left, if_true, if_false, List.replicate, Nat.reduceAdd, Nat.reduceSub, Nat.reduceMul, Nat.reduceLeDiff, Nat.reduceLT, Nat.reduceEqDiff]
        refine CorS.of (Cor.run (noC_good _) hg hm ?_)
        simp +contextual -implicitDefEqProofs (maxSteps := 2000000) only [wz, eThen_normal, ruH, ruB, Int.reduceLT, Int.reduceLE, Int.reduceAdd, Int.reduceSub, Int.reduceMul, Int.reduceNeg, Int.reduceToNat, Int.reduceEq, Int.reduceNe, Int.reduceTDiv, Int.reduceTMod, implies_true, putL, appN, appX, appC, Eng.Fi, reduceCtorEq, exists_eq_left', exists_eq_left, if_true, if_false, List.replicate, Nat.reduceAdd, Nat.reduceSub, Nat.reduceMul, Nat.reduceLeDiff, Nat.reduceLT, Nat.reduceEqDiff]
        exact ⟨(z + 1, h3, N3), ⟨⟨by simp only; omega, by simp only; omega⟩, by rw [hrest]; exact hD⟩, by simp only; omega, Wkn.keep [0, 1, 3, 4] rfl⟩
    · have hz' := eq_false hz
      have ez : (x.zh + 1 - z).toNat = 0 := by omega
      rw [ez, pZ] at hD
      refine CorS.seq (CorS.of (Cor.run (noC_good _) hg hm ?_))
      simp +contextual -implicitDefEqProofs (maxSteps := 2000000) only [S_p2, hz', eThen_exit, eBlk_exit, eThen_normal, eBlk_normal, ruH, ruB, Int.reduceLT, Int.reduceLE, Int.reduceAdd, Int.reduceSub, Int.reduceMul, Int.reduceNeg, Int.reduceToNat, Int.reduceEq, Int.reduceNe, Int.reduceTDiv, Int.reduceTMod, implies_true, putL, appN, appX, appC, Eng.Fi, reduceCtorEq, exists_eq_left', exists_eq_left, if_true, if_false, List.replicate, Nat.reduceAdd, Nat.reduceSub, Nat.reduceMul, Nat.reduceLeDiff, Nat.reduceLT, Nat.reduceEqDiff]
      refine CorS.of (Cor.run (noC_good _) hg hm ?_)
      simp +contextual -implicitDefEqProofs (maxSteps := 2000000) only [wy, eThen_normal, ruH, ruB, Int.reduceLT, Int.reduceLE, Int.reduceAdd, Int.reduceSub, Int.reduceMul, Int.reduceNeg, Int.reduceToNat, Int.reduceEq, Int.reduceNe, Int.reduceTDiv, Int.reduceTMod, implies_true, putL, appN, appX, appC, Eng.Fi, reduceCtorEq, exists_eq_left', exists_eq_left, if_true, if_false, List.replicate, Nat.reduceAdd, Nat.reduceSub, Nat.reduceMul, Nat.reduceLeDiff, Nat.reduceLT, Nat.reduceEqDiff]
      exact ⟨(y + 1, h2, N2), ⟨⟨by simp only; omega, by simp only; omega⟩, hD⟩, by simp only; omega, Wkn.keep [0, 1, 3] rfl⟩
  · have hy' := eq_false hy
    have ey : (x.yh + 1 - y).toNat = 0 := by omega
    rw [ey, pY] at hD
    refine CorS.seq (CorS.of (Cor.run (noC_good _) hg hm ?_))
    simp +contextual -implicitDefEqProofs (maxSteps := 2000000) only [S_p1, hy', eThen_exit, eBlk_exit, FinL, ruH, ruB, Int.reduceLT, Int.reduceLE, Int.reduceAdd, Int.reduceSub, Int.reduceMul, Int.reduceNeg, Int.reduceToNat, Int.reduceEq, Int.reduceNe, Int.reduceTDiv, Int.reduceTMod, implies_true, putL, appN, appX, appC, Eng.Fi, reduceCtorEq, exists_eq_left', exists_eq_left, if_true, if_false, List.replicate, Nat.reduceAdd, Nat.reduceSub, Nat.reduceMul, Nat.reduceLeDiff, Nat.reduceLT, Nat.reduceEqDiff]
    exact ⟨hD.1.symm, hD.2.symm⟩
end Wa
