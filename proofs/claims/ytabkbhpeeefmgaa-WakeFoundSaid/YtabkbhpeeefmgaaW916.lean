import Derived.Test.YtabkbhpeeefmgaaEngS9
import Derived.Test.YtabkbhpeeefmgaaW915
open Go Go.Proofs Eng
set_option maxRecDepth 100000
set_option linter.unusedSimpArgs false
set_option linter.unusedVariables false
def a51 : AC := .seq (.ops false [] [⟨some 1, .box 102 10 1 true, [.t 0], none⟩, ⟨some 2, .p (.mov), [.c (.bool false)], none⟩]) (.seq (.ops false [] [⟨some 3, .p (.faddr 9), [.t 1], none⟩, ⟨some 4, .load 1 false, [.t 3], none⟩, ⟨some 5, .p (.lenS), [.t 4], none⟩, ⟨some 6, .p (.binI .leq), [.t 5, .c (.int .i64 14)], none⟩, ⟨some 7, .p (.mov), [.t 6], none⟩, ⟨some 8, .p (.faddr 5), [.t 1], some (7, true)⟩, ⟨some 9, .load 1 false, [.t 8], some (7, true)⟩, ⟨some 10, .p (.lenS), [.t 9], some (7, true)⟩, ⟨some 11, .p (.binI .leq), [.t 10, .c (.int .i64 8)], some (7, true)⟩, ⟨some 12, .p (.pick), [.t 7, .t 11, .c (.bool false)], none⟩, ⟨some 13, .p (.mov), [.t 12], none⟩, ⟨some 14, .load 10 true, [.t 1], some (13, true)⟩, ⟨some 15, .call 52, [.t 14], some (13, true)⟩, ⟨some 16, .p (.binI .neq), [.t 15, .c (.int .i64 0)], some (13, true)⟩, ⟨some 17, .p (.mov), [.t 16], some (13, true)⟩, ⟨some 18, .load 10 true, [.t 1], some (17, false)⟩, ⟨some 19, .call 117, [.t 18], some (17, false)⟩, ⟨some 20, .p (.binI .leq), [.t 19, .c (.int .i64 120)], some (17, false)⟩, ⟨some 21, .p (.pick), [.t 17, .c (.bool true), .t 20], some (13, true)⟩, ⟨some 22, .p (.pick), [.t 13, .t 21, .c (.bool false)], none⟩, ⟨some 2, .p (.mov), [.t 22], none⟩]) (.ret))
theorem c51 : FnC Try.prog 51 23 a51 [.tmp 2] := ⟨Try.call51, _, _, Try.func51, rfl, by kernel_rfl, by kernel_rfl, rfl⟩
def a53 : AC := .seq (.ops false [] [⟨some 1, .box 102 10 1 true, [.t 0], none⟩, ⟨some 2, .p (.mov), [.c (.nilslice)], none⟩]) (.seq (.ops false [] [⟨some 3, .p (.mov), [.c (.nilslice)], none⟩]) (.seq (.seq (.ops false [] [⟨some 7, .p (.faddr 0), [.t 1], none⟩, ⟨some 8, .p (.faddr 0), [.t 7], none⟩, ⟨some 9, .load 1 false, [.t 8], none⟩, ⟨some 4, .p (.mov), [.t 9], none⟩]) (.block 0 (.loop (.seq (.seq (.ops false [] [⟨some 10, .p (.mov), [.t 4], none⟩, ⟨some 11, .p (.faddr 0), [.t 1], none⟩, ⟨some 12, .p (.faddr 1), [.t 11], none⟩, ⟨some 13, .load 1 false, [.t 12], none⟩, ⟨some 14, .p (.binI .leq), [.t 10, .t 13], none⟩]) (.cond (.t 14) (.skip) (.exit 0))) (.seq (.block 1 (.seq (.ops false [] [⟨some 17, .p (.faddr 2), [.t 1], none⟩, ⟨some 18, .p (.faddr 0), [.t 17], none⟩, ⟨some 19, .load 1 false, [.t 18], none⟩, ⟨some 5, .p (.mov), [.t 19], none⟩]) (.block 2 (.loop (.seq (.seq (.ops false [] [⟨some 20, .p (.mov), [.t 5], none⟩, ⟨some 21, .p (.faddr 2), [.t 1], none⟩, ⟨some 22, .p (.faddr 1), [.t 21], none⟩, ⟨some 23, .load 1 false, [.t 22], none⟩, ⟨some 24, .p (.binI .leq), [.t 20, .t 23], none⟩]) (.cond (.t 24) (.skip) (.exit 2))) (.seq (.block 3 (.seq (.ops false [] [⟨some 6, .p (.mov), [.c (.int .i64 0)], none⟩]) (.block 4 (.loop (.seq (.seq (.ops false [] [⟨some 27, .p (.mov), [.t 6], none⟩, ⟨some 28, .p (.faddr 5), [.t 1], none⟩, ⟨some 29, .load 1 false, [.t 28], none⟩, ⟨some 30, .p (.lenS), [.t 29], none⟩, ⟨some 31, .p (.binI .lss), [.t 27, .t 30], none⟩]) (.cond (.t 31) (.skip) (.exit 4))) (.seq (.block 5 (.ops true [] [⟨some 34, .p (.mov), [.t 3], none⟩, ⟨some 35, .p (.mov), [.t 4], none⟩, ⟨some 36, .p (.mov), [.t 5], none⟩, ⟨some 37, .p (.build [.int .i64 0, .int .i64 0] [(0, 1), (1, 1)]), [.t 35, .t 36], none⟩, ⟨some 38, .p (.faddr 4), [.t 1], none⟩, ⟨some 39, .load 1 false, [.t 38], none⟩, ⟨some 40, .p (.faddr 5), [.t 1], none⟩, ⟨some 41, .load 1 false, [.t 40], none⟩, ⟨some 42, .p (.mov), [.t 6], none⟩, ⟨some 43, .p (.iaddrS 1), [.t 41, .t 42], none⟩, ⟨some 44, .load 1 false, [.t 43], none⟩, ⟨some 45, .p (.build [.int .i64 0, .int .i64 0, .int .i64 0, .int .i64 0] [(0, 2), (2, 1), (3, 1)]), [.t 37, .t 39, .t 44], none⟩, ⟨some 46, .fbs 4, [.t 45], none⟩, ⟨some 47, .app 108 4 32, [.t 34, .t 46], none⟩, ⟨some 3, .p (.mov), [.t 47], none⟩])) (.ops false [] [⟨some 32, .p (.mov), [.t 6], none⟩, ⟨some 33, .p (.binI .add), [.t 32, .c (.int .i64 1)], none⟩, ⟨some 6, .p (.mov), [.t 33], none⟩]))))))) (.ops false [] [⟨some 25, .p (.mov), [.t 5], none⟩, ⟨some 26, .p (.binI .add), [.t 25, .c (.int .i64 1)], none⟩, ⟨some 5, .p (.mov), [.t 26], none⟩]))))))) (.ops false [] [⟨some 15, .p (.mov), [.t 4], none⟩, ⟨some 16, .p (.binI .add), [.t 15, .c (.int .i64 1)], none⟩, ⟨some 4, .p (.mov), [.t 16], none⟩])))))) (.seq (.ops false [] [⟨some 48, .p (.mov), [.t 3], none⟩, ⟨some 2, .p (.mov), [.t 48], none⟩]) (.ret))))
theorem c53 : FnC Try.prog 53 49 a53 [.tmp 2] := ⟨Try.call53, _, _, Try.func53, rfl, by kernel_rfl, by kernel_rfl, rfl⟩
def a56 : AC := .seq (.ops false [] [⟨some 1, .box 102 10 1 true, [.t 0], none⟩, ⟨some 2, .alloc 102 10 [.agg [.int .i64 0, .int .i64 0, .int .i64 0, .int .i64 0, .int .i64 0, .nilslice, .int .i64 0, .int .i64 0, .int .i64 0, .nilslice]], [], none⟩]) (.seq (.ops true [] [⟨some 3, .p (.faddr 5), [.t 1], none⟩, ⟨some 4, .load 1 false, [.t 3], none⟩, ⟨some 5, .call 104, [.t 4], none⟩, ⟨some 6, .p (.faddr 9), [.t 1], none⟩, ⟨some 7, .load 1 false, [.t 6], none⟩, ⟨some 8, .call 58, [.t 7], none⟩, ⟨some 9, .p (.faddr 5), [.t 1], none⟩, ⟨none, .store 1 false, [.t 9, .t 5], none⟩, ⟨some 10, .p (.faddr 9), [.t 1], none⟩, ⟨none, .store 1 false, [.t 10, .t 8], none⟩]) (.seq (.ops false [] [⟨some 11, .load 10 true, [.t 1], none⟩, ⟨none, .store 10 true, [.t 2, .t 11], none⟩]) (.ret)))
theorem c56 : FnC Try.prog 56 12 a56 [.cell 2 10 true] := ⟨Try.call56, _, _, Try.func56, rfl, by kernel_rfl, by kernel_rfl, rfl⟩
def a58 : AC := .seq (.ops false [] [⟨some 2, .p (.mov), [.c (.nilslice)], none⟩]) (.seq (.ops false [] [⟨some 3, .bsl 118 3, [], none⟩, ⟨some 4, .p (.mov), [.t 0], none⟩, ⟨some 5, .app 118 3 24, [.t 3, .t 4], none⟩, ⟨some 2, .p (.mov), [.t 5], none⟩]) (.ret))
theorem c58 : FnC Try.prog 58 6 a58 [.tmp 2] := ⟨Try.call58, _, _, Try.func58, rfl, by kernel_rfl, by kernel_rfl, rfl⟩
def a61 : AC := .seq (.ops false [] [⟨some 2, .box 102 10 1 true, [.t 0], none⟩, ⟨some 3, .box 3 1 1 false, [.t 1], none⟩, ⟨some 4, .p (.mov), [.c (.nilslice)], none⟩, ⟨some 5, .p (.mov), [.c (.int .i64 0)], none⟩]) (.seq (.seq (.ops true [] [⟨some 10, .load 10 true, [.t 2], none⟩, ⟨some 11, .call 120, [.t 10], none⟩, ⟨some 12, .load 1 false, [.t 3], none⟩, ⟨some 13, .call 103, [.t 12, .c (.int .i64 0), .c (.int .i64 12000000000)], none⟩, ⟨some 14, .call 91, [.t 13, .c (.int .i64 2)], none⟩, ⟨some 15, .fbs 1, [.t 11, .t 14], none⟩, ⟨some 16, .call 79, [.t 15], none⟩, ⟨some 6, .p (.mov), [.t 16], none⟩]) (.seq (.ops false [] [⟨some 17, .p (.mov), [.t 6], none⟩, ⟨some 18, .p (.binI .neq), [.t 17, .c (.int .i64 0)], none⟩]) (.cond (.t 18) (.seq (.ops false [] [⟨some 19, .p (.mov), [.t 6], none⟩, ⟨some 4, .p (.mov), [.c (.nilslice)], none⟩, ⟨some 5, .p (.mov), [.t 19], none⟩]) (.ret)) (.skip)))) (.seq (.ops false [] [⟨some 7, .alloc 105 1 [.nilslice], [], none⟩]) (.seq (.seq (.ops false [] [⟨some 20, .load 10 true, [.t 2], none⟩, ⟨some 21, .call 121, [.t 20], none⟩]) (.block 0 (.rf (.t 21) [22, 23] (.seq (.ops false [] [⟨some 8, .alloc 108 4 [.agg [.int .i64 0, .int .i64 0, .int .i64 0, .int .i64 0]], [], none⟩, ⟨none, .store 4 true, [.t 8, .t 22], none⟩]) (.ops false [] [⟨some 9, .p (.mov), [.t 23], none⟩])) (.block 1 (.seq (.ops false [] [⟨some 24, .p (.mov), [.t 9], none⟩, ⟨some 25, .load 1 false, [.t 3], none⟩, ⟨some 26, .p (.binI .leq), [.t 24, .t 25], none⟩]) (.cond (.t 26) (.ops false [] [⟨some 27, .load 1 false, [.t 7], none⟩, ⟨some 28, .load 4 true, [.t 8], none⟩, ⟨some 29, .fbs 4, [.t 28], none⟩, ⟨some 30, .app 108 4 32, [.t 27, .t 29], none⟩, ⟨none, .store 1 false, [.t 7, .t 30], none⟩]) (.skip))))))) (.seq (.ops false [] [⟨some 31, .load 1 false, [.t 7], none⟩, ⟨some 4, .p (.mov), [.t 31], none⟩, ⟨some 5, .p (.mov), [.c (.int .i64 0)], none⟩]) (.ret)))))
theorem c61 : FnC Try.prog 61 32 a61 [.tmp 4, .tmp 5] := ⟨Try.call61, _, _, Try.func61, rfl, by kernel_rfl, by kernel_rfl, rfl⟩
def a117 : AC := .seq (.ops false [] [⟨some 1, .box 102 10 1 true, [.t 0], none⟩, ⟨some 2, .p (.mov), [.c (.int .i64 0)], none⟩]) (.seq (.ops false [] [⟨some 3, .p (.faddr 0), [.t 1], none⟩, ⟨some 4, .p (.faddr 1), [.t 3], none⟩, ⟨some 5, .load 1 false, [.t 4], none⟩, ⟨some 6, .p (.faddr 0), [.t 1], none⟩, ⟨some 7, .p (.faddr 0), [.t 6], none⟩, ⟨some 8, .load 1 false, [.t 7], none⟩, ⟨some 9, .p (.binI .sub), [.t 5, .t 8], none⟩, ⟨some 10, .p (.binI .add), [.t 9, .c (.int .i64 1)], none⟩, ⟨some 11, .p (.faddr 2), [.t 1], none⟩, ⟨some 12, .p (.faddr 1), [.t 11], none⟩, ⟨some 13, .load 1 false, [.t 12], none⟩, ⟨some 14, .p (.faddr 2), [.t 1], none⟩, ⟨some 15, .p (.faddr 0), [.t 14], none⟩, ⟨some 16, .load 1 false, [.t 15], none⟩, ⟨some 17, .p (.binI .sub), [.t 13, .t 16], none⟩, ⟨some 18, .p (.binI .add), [.t 17, .c (.int .i64 1)], none⟩, ⟨some 19, .p (.binI .mul), [.t 10, .t 18], none⟩, ⟨some 20, .p (.faddr 5), [.t 1], none⟩, ⟨some 21, .load 1 false, [.t 20], none⟩, ⟨some 22, .p (.lenS), [.t 21], none⟩, ⟨some 23, .p (.binI .mul), [.t 19, .t 22], none⟩, ⟨some 2, .p (.mov), [.t 23], none⟩]) (.ret))
theorem c117 : FnC Try.prog 117 24 a117 [.tmp 2] := ⟨Try.call117, _, _, Try.func117, rfl, by kernel_rfl, by kernel_rfl, rfl⟩
namespace Wa
theorem k_CopyReadings (l : List Rg) (hl : l.length ≤ 1000) : FOk P 58 [.vs (l.map eRg)] (.vs (l.map eRg)) := by
  have m1 : (l.length ≤ maxLen) = True := mx (by omega)
  have m2 : (l.length * 24 ≤ 140737488355328) = True := by simp only [eq_iff_iff, iff_true]; omega
  have m3 : (l.map eRg).all (fun v => decide (v.cells.length = 3)) = true := by simp [List.all_map, AV.cells]
  refine c58.fok (by simp only [subs, sub1, free_Rg]) (Cor.run (noC_good _) (noHx_good _) hm ?_)
  simp +contextual -implicitDefEqProofs (maxSteps := 2000000) only [bg_eq, a58, List.length_map, m1, m2, m3, ruB, rh_no, Int.reduceLT, Int.reduceLE, Int.reduceAdd, Int.reduceSub, Int.reduceMul, Int.reduceNeg, Int.reduceToNat, Int.reduceEq, Int.reduceNe, Int.reduceTDiv, Int.reduceTMod, implies_true, putL, appN, appX, appC, Eng.Fi, reduceCtorEq, exists_eq_left', exists_eq_left, if_true, if_false, List.replicate, Nat.reduceAdd, Nat.reduceSub, Nat.reduceMul, Nat.reduceLeDiff, Nat.reduceLT, Nat.reduceEqDiff]
  have t1 : (l.map eRg).take l.length = l.map eRg := by rw [List.take_of_length_le]; simp
  simp [free_Rg, t1]
def cf_CopyReadings : List AV → Option AV
  | [.vs l_v] => onL dRg l_v fun l => if l.length ≤ 1000 then some (.vs (l.map eRg)) else none
  | _ => none
theorem g_CopyReadings : Fn P 58 cf_CopyReadings := fun args v hh => by
  unfold cf_CopyReadings at hh; split at hh
  · obtain ⟨l, rfl, hh1⟩ := onL_inv dRg_inv hh
    split at hh1
    · rename_i hc; have hk := Option.some.inj hh1; subst hk; exact k_CopyReadings _ hc
    · cases hh1
  · cases hh
theorem x_CopyReadings (l : List Rg) (hc : (l.length ≤ 1000) = True) : cf_CopyReadings [.vs (l.map eRg)] = some (.vs (l.map eRg)) := by
  simp only [cf_CopyReadings, onL_map dRg_e]
  exact if_pos (by rw [hc]; trivial)
def S_pr (x : Sr) (q : Int × List Pa) : AState := ⟨[.any, .vp [eSr x] 0 0, .any, gA 0 4 (q.2.map ePa), I q.1, .any, .any, .any, .any, .any, .any, .any, .any, .any, .any, .any, .any, .any, .any, .any, .any, .any, .any, .any, .any, .any, .any, .any, .any, .any, .any, .any, .any, .any, .any, .any, .any, .any, .any, .any, .any, .any, .any, .any, .any, .any, .any, .any, .any], gH 0 108 4 (q.2.map ePa), 1⟩
def S_pz (x : Sr) (y : Int) (q : Int × List Pa) : AState := ⟨[.any, .vp [eSr x] 0 0, .any, gA 0 4 (q.2.map ePa), I y, I q.1, .any, .any, .any, .any, .any, .any, .any, .any, .any, .any, .any, .any, .any, .any, .any, .any, .any, .any, .any, .any, .any, .any, .any, .any, .any, .any, .any, .any, .any, .any, .any, .any, .any, .any, .any, .any, .any, .any, .any, .any, .any, .any, .any], gH 0 108 4 (q.2.map ePa), 1⟩
def S_ps (x : Sr) (y z : Int) (q : Nat × List Pa) : AState := ⟨[.any, .vp [eSr x] 0 0, .any, gA 0 4 (q.2.map ePa), I y, I z, I q.1, .any, .any, .any, .any, .any, .any, .any, .any, .any, .any, .any, .any, .any, .any, .any, .any, .any, .any, .any, .any, .any, .any, .any, .any, .any, .any, .any, .any, .any, .any, .any, .any, .any, .any, .any, .any, .any, .any, .any, .any, .any, .any], gH 0 108 4 (q.2.map ePa), 1⟩
theorem tk_Pa (l : List Pa) : (l.map ePa).take l.length = l.map ePa := by rw [List.take_of_length_le]; simp
set_option maxHeartbeats 8000000 in
theorem k_rPairs (x : Sr) (h : srE x = 0 ∧ (prL x).length ≤ 10000) : FOk P 53 [eSr x] (.vs ((prL x).map ePa)) := by
  obtain ⟨h, hpl⟩ := h
  have hs1 : s1E x = 0 := by
    unfold srE at h
    split at h
    · rename_i q; exact q
    · rename_i q; exact absurd h q
  have zz := firstE_zero hs1
  have hy : -1000 ≤ x.yl ∧ x.yl ≤ x.yh ∧ x.yh ≤ 1000 := by
    have z := zz (arG (siR x.yl ∧ siR x.yh) x.yl x.yh) (by simp)
    unfold arG at z
    split at z
    · rename_i q; have := ar_sm q; unfold siR at this; omega
    · rename_i q; exact absurd z q
  have hz : 0 ≤ x.zl ∧ x.zl ≤ x.zh ∧ x.zh ≤ 1000 := by
    have z := zz (arG (heR x.zl ∧ heR x.zh) x.zl x.zh) (by simp)
    unfold arG at z
    split at z
    · rename_i q; have := ar_sm q; unfold heR at this; omega
    · rename_i q; exact absurd z q
  have hst : x.st.length ≤ 6 := by
    have := unl_zero (zz (unl ((x.st.length : Int) ≤ 6) 8) (by simp)) (by decide)
    omega
  refine c53.fok (by simp only [subs, sub1, free_I, free_Rg]) (Cor.run (noC_good _) (noHx_good _) hm ?_)
  simp +contextual -implicitDefEqProofs (maxSteps := 2000000) only [bg_eq, a53, ruB, rh_no, Int.reduceLT, Int.reduceLE, Int.reduceAdd, Int.reduceSub, Int.reduceMul, Int.reduceNeg, Int.reduceToNat, Int.reduceEq, Int.reduceNe, Int.reduceTDiv, Int.reduceTMod, implies_true, putL, appN, appX, appC, Eng.Fi, reduceCtorEq, exists_eq_left', exists_eq_left, if_true, if_false, List.replicate, Nat.reduceAdd, Nat.reduceSub, Nat.reduceMul, Nat.reduceLeDiff, Nat.reduceLT, Nat.reduceEqDiff]
  refine Cor.lp (noC_good _) (noHx_good _) hm (S_pr x) (fun q => (x.yl ≤ q.1 ∧ q.1 ≤ x.yh + 1) ∧ q.2 ++ pY x (x.yh + 1 - q.1).toNat q.1 = prL x) (fun q => (x.yh + 1 - q.1).toNat) (a := (x.yl, [])) ⟨⟨Int.le_refl _, by simp only; omega⟩, rfl⟩ (Wkn.to ⟨0, [], [0], 1, [1, 3, 4]⟩ rfl rfl (by simp [Wk.st, keepT, memN, Wk.fate, Wk.fate0, assoc, getE, Wk.hp, ABlk.sub, sub1, subs, free_I, free_Rg, S_pr, gA, gH])) ?_
  rintro f ⟨y, o⟩ ⟨⟨hy1, hy2⟩, ho⟩ go
  simp only at hy1 hy2 ho
  by_cases hyc : y ≤ x.yh
  · have e1 : (y ≤ x.yh) = True := eq_true hyc
    have e3 : IntKind.wrap .i64 (y + 1) = y + 1 := wrap64 (by omega) (by omega)
    have en : (x.yh + 1 - y).toNat = (x.yh + 1 - (y + 1)).toNat + 1 := by omega
    rw [en, pY] at ho
    generalize hR : pY x (x.yh + 1 - (y + 1)).toNat (y + 1) = R at *
    simp +contextual -implicitDefEqProofs (maxSteps := 2000000) only [S_pr, e1, ruB, rh_no, Int.reduceLT, Int.reduceLE, Int.reduceAdd, Int.reduceSub, Int.reduceMul, Int.reduceNeg, Int.reduceToNat, Int.reduceEq, Int.reduceNe, Int.reduceTDiv, Int.reduceTMod, implies_true, putL, appN, appX, appC, Eng.Fi, reduceCtorEq, exists_eq_left', exists_eq_left, if_true, if_false, List.replicate, Nat.reduceAdd, Nat.reduceSub, Nat.reduceMul, Nat.reduceLeDiff, Nat.reduceLT, Nat.reduceEqDiff]
    refine Cor.lp (noC_good _) (noHx_good _) hm (S_pz x y) (fun q => (x.zl ≤ q.1 ∧ q.1 ≤ x.zh + 1) ∧ q.2 ++ (pZ x y (x.zh + 1 - q.1).toNat q.1 ++ R) = prL x) (fun q => (x.zh + 1 - q.1).toNat) (a := (x.zl, o)) ⟨⟨Int.le_refl _, by simp only; omega⟩, ho⟩ (Wkn.keep [1, 3, 4, 5] rfl) ?_
    rintro f2 ⟨z, o2⟩ ⟨⟨hz1, hz2⟩, ho2⟩ go2
    simp only at hz1 hz2 ho2
    by_cases hzc : z ≤ x.zh
    · have u1 : (z ≤ x.zh) = True := eq_true hzc
      have u3 : IntKind.wrap .i64 (z + 1) = z + 1 := wrap64 (by omega) (by omega)
      have un : (x.zh + 1 - z).toNat = (x.zh + 1 - (z + 1)).toNat + 1 := by omega
      rw [un, pZ, List.append_assoc] at ho2
      generalize hR2 : pZ x y (x.zh + 1 - (z + 1)).toNat (z + 1) ++ R = R2 at *
      simp +contextual -implicitDefEqProofs (maxSteps := 2000000) only [S_pz, u1, Int.natCast_zero, ruB, rh_no, Int.reduceLT, Int.reduceLE, Int.reduceAdd, Int.reduceSub, Int.reduceMul, Int.reduceNeg, Int.reduceToNat, Int.reduceEq, Int.reduceNe, Int.reduceTDiv, Int.reduceTMod, implies_true, putL, appN, appX, appC, Eng.Fi, reduceCtorEq, exists_eq_left', exists_eq_left, if_true, if_false, List.replicate, Nat.reduceAdd, Nat.reduceSub, Nat.reduceMul, Nat.reduceLeDiff, Nat.reduceLT, Nat.reduceEqDiff]
      refine Cor.lp (noC_good _) (noHx_good _) hm (S_ps x y z) (fun q => q.1 ≤ x.st.length ∧ q.2 ++ (pS x y z (x.st.drop q.1) ++ R2) = prL x) (fun q => x.st.length - q.1) (a := (0, o2)) ⟨Nat.zero_le _, ho2⟩ (Wkn.keep [1, 3, 4, 5, 6] rfl) ?_
      rintro f3 ⟨k, o3⟩ ⟨hk, ho3⟩ go3
      simp only at hk ho3
      have hol : o3.length ≤ 10000 := by
        have := congrArg List.length ho3
        rw [List.length_append] at this
        omega
      have hfo := fun φ => free_Pa φ o3
      rcases Nat.lt_or_ge k x.st.length with hlt | hge
      · have v1 : ((k : Int) < (x.st.length : Int)) = True := eq_true (by omega)
        have v2 : (x.st.map eI)[k]? = some (eI x.st[k]) := get_e eI x.st hlt
        have v3 : IntKind.wrap .i64 ((k : Int) + 1) = ((k + 1 : Nat) : Int) := suc_w (by omega)
        have hn : o3 ++ [⟨y, z, x.h, x.st[k]⟩] ++ (pS x y z (x.st.drop (k + 1)) ++ R2) = prL x := by
          rw [← ho3, List.drop_eq_getElem_cons hlt]
          simp only [pS, List.map_cons, List.append_assoc, List.cons_append, List.nil_append]
        clear ho3
        obtain ⟨a, ha⟩ : ∃ a, x.st[k] = a := ⟨_, rfl⟩
        rw [ha] at v2 hn
        have m1 : (o3.length + 1 ≤ maxLen) = True := mx (by omega)
        have m2 : ((o3.length + 1) * 32 ≤ 140737488355328) = True := by simp only [eq_iff_iff, iff_true]; omega
        cases o3 with
        | nil =>
          simp only [List.map_cons, List.map_nil, subs, List.cons.injEq] at hfo
          simp only [List.length_nil, List.length_cons, Nat.zero_add] at m1 m2
          simp +contextual -implicitDefEqProofs (maxSteps := 2000000) only [S_ps, gA, gH, v1, v2, v3, rs_nil, rs_t, rs_f, ag_nils, ag_sl, ag_vs, ag_str, ag_ptr, ag_nilp, ag_vp, ag_fun, m1, m2, List.length_map, List.map_cons, List.map_nil, ruB, rh_no, Int.reduceLT, Int.reduceLE, Int.reduceAdd, Int.reduceSub, Int.reduceMul, Int.reduceNeg, Int.reduceToNat, Int.reduceEq, Int.reduceNe, Int.reduceTDiv, Int.reduceTMod, implies_true, putL, appN, appX, appC, Eng.Fi, reduceCtorEq, exists_eq_left', exists_eq_left, if_true, if_false, List.replicate, Nat.reduceAdd, Nat.reduceSub, Nat.reduceMul, Nat.reduceLeDiff, Nat.reduceLT, Nat.reduceEqDiff]
          exact go3 _ (k + 1, [] ++ [⟨y, z, x.h, a⟩]) ⟨hlt, hn⟩ (by simp only; omega) (Wkn.to ⟨0, [(1, 0)], [], 1, [1, 3, 4, 5, 6]⟩ rfl rfl (by simp [Wk.st, keepT, memN, Wk.fate, Wk.fate0, assoc, getE, Wk.hp, ABlk.sub, sub1, subs, S_ps, gA, gH, hfo, free_I, free_Rg, subs_append]))
          
        | cons z0 zr =>
          simp only [List.map_cons, List.map_nil, subs, List.cons.injEq] at hfo
          simp only [List.length_nil, List.length_cons, Nat.zero_add] at m1 m2
          simp +contextual -implicitDefEqProofs (maxSteps := 2000000) only [S_ps, gA, gH, v1, v2, v3, rs_nil, rs_t, rs_f, ag_nils, ag_sl, ag_vs, ag_str, ag_ptr, ag_nilp, ag_vp, ag_fun, m1, m2, List.length_map, List.map_cons, List.map_nil, ruB, rh_no, Int.reduceLT, Int.reduceLE, Int.reduceAdd, Int.reduceSub, Int.reduceMul, Int.reduceNeg, Int.reduceToNat, Int.reduceEq, Int.reduceNe, Int.reduceTDiv, Int.reduceTMod, implies_true, putL, appN, appX, appC, Eng.Fi, reduceCtorEq, exists_eq_left', exists_eq_left, if_true, if_false, List.replicate, Nat.reduceAdd, Nat.reduceSub, Nat.reduceMul, Nat.reduceLeDiff, Nat.reduceLT, Nat.reduceEqDiff]
          exact go3 _ (k + 1, (z0 :: zr) ++ [⟨y, z, x.h, a⟩]) ⟨hlt, hn⟩ (by simp only; omega) (Wkn.to ⟨0, [(1, 0)], [], 1, [1, 3, 4, 5, 6]⟩ rfl rfl (by simp [Wk.st, keepT, memN, Wk.fate, Wk.fate0, assoc, getE, Wk.hp, ABlk.sub, sub1, subs, S_ps, gA, gH, hfo, free_I, free_Rg, subs_append]))
          
      · have v1 : ((k : Int) < (x.st.length : Int)) = False := eq_false (by omega)
        rw [List.drop_eq_nil_of_le hge] at ho3
        have ho3 : o3 ++ R2 = prL x := ho3
        simp +contextual -implicitDefEqProofs (maxSteps := 2000000) only [S_ps, v1, u3, List.length_map, ruB, rh_no, Int.reduceLT, Int.reduceLE, Int.reduceAdd, Int.reduceSub, Int.reduceMul, Int.reduceNeg, Int.reduceToNat, Int.reduceEq, Int.reduceNe, Int.reduceTDiv, Int.reduceTMod, implies_true, putL, appN, appX, appC, Eng.Fi, reduceCtorEq, exists_eq_left', exists_eq_left, if_true, if_false, List.replicate, Nat.reduceAdd, Nat.reduceSub, Nat.reduceMul, Nat.reduceLeDiff, Nat.reduceLT, Nat.reduceEqDiff]
        exact go2 _ (z + 1, o3) ⟨⟨by simp only; omega, by simp only; omega⟩, by rw [hR2]; exact ho3⟩ (by simp only; omega) (Wkn.keep [1, 3, 4, 5] rfl)
    · have u1 : (z ≤ x.zh) = False := eq_false hzc
      have un : (x.zh + 1 - z).toNat = 0 := by omega
      rw [un, pZ, List.nil_append] at ho2
      simp +contextual -implicitDefEqProofs (maxSteps := 2000000) only [S_pz, u1, e3, ruB, rh_no, Int.reduceLT, Int.reduceLE, Int.reduceAdd, Int.reduceSub, Int.reduceMul, Int.reduceNeg, Int.reduceToNat, Int.reduceEq, Int.reduceNe, Int.reduceTDiv, Int.reduceTMod, implies_true, putL, appN, appX, appC, Eng.Fi, reduceCtorEq, exists_eq_left', exists_eq_left, if_true, if_false, List.replicate, Nat.reduceAdd, Nat.reduceSub, Nat.reduceMul, Nat.reduceLeDiff, Nat.reduceLT, Nat.reduceEqDiff]
      exact go _ (y + 1, o2) ⟨⟨by simp only; omega, by simp only; omega⟩, by rw [hR]; exact ho2⟩ (by simp only; omega) (Wkn.keep [1, 3, 4] rfl)
  · have e1 : (y ≤ x.yh) = False := eq_false hyc
    have en : (x.yh + 1 - y).toNat = 0 := by omega
    rw [en, pY, List.append_nil] at ho
    have hfo := fun φ => free_Pa φ o
    rw [← ho]
    cases o with
    | nil =>
      simp only [List.map_cons, List.map_nil, subs, List.cons.injEq] at hfo
      simp +contextual -implicitDefEqProofs (maxSteps := 2000000) only [S_pr, gA, gH, e1, List.length_map, List.map_cons, List.map_nil, tk_Pa, Nat.le_refl, hfo, ruB, rh_no, Int.reduceLT, Int.reduceLE, Int.reduceAdd, Int.reduceSub, Int.reduceMul, Int.reduceNeg, Int.reduceToNat, Int.reduceEq, Int.reduceNe, Int.reduceTDiv, Int.reduceTMod, implies_true, putL, appN, appX, appC, Eng.Fi, reduceCtorEq, exists_eq_left', exists_eq_left, if_true, if_false, List.replicate, Nat.reduceAdd, Nat.reduceSub, Nat.reduceMul, Nat.reduceLeDiff, Nat.reduceLT, Nat.reduceEqDiff]
      
    | cons z0 zr =>
      simp only [List.map_cons, List.map_nil, subs, List.cons.injEq] at hfo
      simp +contextual -implicitDefEqProofs (maxSteps := 2000000) only [S_pr, gA, gH, e1, List.length_map, List.map_cons, List.map_nil, tk_Pa, Nat.le_refl, hfo, ruB, rh_no, Int.reduceLT, Int.reduceLE, Int.reduceAdd, Int.reduceSub, Int.reduceMul, Int.reduceNeg, Int.reduceToNat, Int.reduceEq, Int.reduceNe, Int.reduceTDiv, Int.reduceTMod, implies_true, putL, appN, appX, appC, Eng.Fi, reduceCtorEq, exists_eq_left', exists_eq_left, if_true, if_false, List.replicate, Nat.reduceAdd, Nat.reduceSub, Nat.reduceMul, Nat.reduceLeDiff, Nat.reduceLT, Nat.reduceEqDiff]
      
noncomputable def cf_rPairs : List AV → Option AV
  | [x_v] => onSr x_v fun x => if srE x = 0 ∧ (prL x).length ≤ 10000 then some (.vs ((prL x).map ePa)) else none
  | _ => none
theorem g_rPairs : Fn P 53 cf_rPairs := fun args v hh => by
  unfold cf_rPairs at hh; split at hh
  · obtain ⟨x, rfl, hh1⟩ := onSr_inv hh
    split at hh1
    · rename_i hc; have hk := Option.some.inj hh1; subst hk; exact k_rPairs _ hc
    · cases hh1
  · cases hh
theorem x_rPairs (x : Sr) (hc : (srE x = 0 ∧ (prL x).length ≤ 10000) = True) : cf_rPairs [eSr x] = some (.vs ((prL x).map ePa)) := by
  simp only [cf_rPairs, onSr_e]
  exact if_pos (by rw [hc]; trivial)
end Wa
open Go Go.Proofs Eng
set_option maxRecDepth 100000
set_option linter.unusedSimpArgs false
set_option linter.unusedVariables false
namespace Wa
def ctV (x : Sr) : Int := (x.yh - x.yl + 1) * (x.zh - x.zl + 1) * x.st.length
theorem sr_bd {x : Sr} (h : srE x = 0) : (-1000 ≤ x.yl ∧ x.yl ≤ x.yh ∧ x.yh ≤ x.yl + 12 ∧ x.yh ≤ 1000) ∧ (0 ≤ x.zl ∧ x.zl ≤ x.zh ∧ x.zh ≤ x.zl + 12 ∧ x.zh ≤ 1000) ∧ 0 < x.st.length ∧ x.st.length ≤ 6 := by
  have hs1 : s1E x = 0 := by
    unfold srE at h
    split at h
    · rename_i q; exact q
    · rename_i q; exact absurd h q
  have zz := firstE_zero hs1
  refine ⟨?_, ?_, ?_⟩
  · have z := zz (arG (siR x.yl ∧ siR x.yh) x.yl x.yh) (by simp)
    unfold arG at z
    split at z
    · rename_i q
      have := ar_sm q
      have := unl_zero z (by decide)
      unfold siR at *
      omega
    · rename_i q; exact absurd z q
  · have z := zz (arG (heR x.zl ∧ heR x.zh) x.zl x.zh) (by simp)
    unfold arG at z
    split at z
    · rename_i q
      have := ar_sm q
      have := unl_zero z (by decide)
      unfold heR at *
      omega
    · rename_i q; exact absurd z q
  · have h1 := unl_zero (zz (unl ((x.st.length : Int) ≤ 6) 8) (by simp)) (by decide)
    have h2 := unl_zero (zz (unl (0 < (x.st.length : Int)) 10) (by simp)) (by decide)
    omega
theorem k_rCount (x : Sr) (h : srE x = 0) : FOk P 117 [eSr x] (I (ctV x)) := by
  obtain ⟨h1, h2, h3, h4⟩ := sr_bd h
  have w1 : IntKind.wrap .i64 (x.yh - x.yl) = x.yh - x.yl := wrap64 (by omega) (by omega)
  have w2 : IntKind.wrap .i64 (x.yh - x.yl + 1) = x.yh - x.yl + 1 := wrap64 (by omega) (by omega)
  have w3 : IntKind.wrap .i64 (x.zh - x.zl) = x.zh - x.zl := wrap64 (by omega) (by omega)
  have w4 : IntKind.wrap .i64 (x.zh - x.zl + 1) = x.zh - x.zl + 1 := wrap64 (by omega) (by omega)
  have p1 := mul_bd (a := x.yh - x.yl + 1) (b := x.zh - x.zl + 1) (A := 13) (B := 13) (by omega) (by omega)
  have p2 := mul_bd (a := (x.yh - x.yl + 1) * (x.zh - x.zl + 1)) (b := (x.st.length : Int)) (A := 169) (B := 6) (by omega) (by omega)
  have w5 : IntKind.wrap .i64 ((x.yh - x.yl + 1) * (x.zh - x.zl + 1)) = (x.yh - x.yl + 1) * (x.zh - x.zl + 1) := wrap64 (by omega) (by omega)
  have w6 : IntKind.wrap .i64 ((x.yh - x.yl + 1) * (x.zh - x.zl + 1) * (x.st.length : Int)) = ctV x := wrap64 (by omega) (by omega)
  refine c117.fok (by simp only [subs, sub1, free_I, free_Rg]) (Cor.run (noC_good _) (noHx_good _) hm ?_)
  simp +contextual -implicitDefEqProofs (maxSteps := 2000000) only [bg_eq, a117, w1, w2, w3, w4, w5, w6, List.length_map, ruB, rh_no, Int.reduceLT, Int.reduceLE, Int.reduceAdd, Int.reduceSub, Int.reduceMul, Int.reduceNeg, Int.reduceToNat, Int.reduceEq, Int.reduceNe, Int.reduceTDiv, Int.reduceTMod, implies_true, putL, appN, appX, appC, Eng.Fi, reduceCtorEq, exists_eq_left', exists_eq_left, if_true, if_false, List.replicate, Nat.reduceAdd, Nat.reduceSub, Nat.reduceMul, Nat.reduceLeDiff, Nat.reduceLT, Nat.reduceEqDiff]
noncomputable def cf_rCount : List AV → Option AV
  | [x_v] => onSr x_v fun x => if srE x = 0 then some (I (ctV x)) else none
  | _ => none
theorem g_rCount : Fn P 117 cf_rCount := fun args v hh => by
  unfold cf_rCount at hh; split at hh
  · obtain ⟨x, rfl, hh1⟩ := onSr_inv hh
    split at hh1
    · rename_i hc; have hk := Option.some.inj hh1; subst hk; exact k_rCount _ hc
    · cases hh1
  · cases hh
theorem x_rCount (x : Sr) (hc : (srE x = 0) = True) : cf_rCount [eSr x] = some (I (ctV x)) := by
  simp only [cf_rCount, onSr_e]
  exact if_pos (by rw [hc]; trivial)
def fwP (x : Sr) : Prop := ((x.rd.length : Int) ≤ 14 ∧ (x.st.length : Int) ≤ 8) ∧ (¬ srE x = 0 ∨ ctV x ≤ 120)
instance (x : Sr) : Decidable (fwP x) := by unfold fwP; infer_instance
theorem k_few6 (x : Sr) : FOk P 51 [eSr x] (.bool (decide (fwP x))) := by
  have y1 := x_rSearchErr x
  unfold fwP
  by_cases h1 : (x.rd.length : Int) ≤ 14
  · have h1' := eq_true h1
    by_cases h2 : (x.st.length : Int) ≤ 8
    · have h2' := eq_true h2
      by_cases h3 : srE x = 0
      · have h3' := eq_true h3
        have y2 := x_rCount x (by simp only [h3])
        refine c51.fok (by simp only [subs, sub1, free_I, free_Rg]) (Cor.run (addC_good g_rCount (addC_good g_rSearchErr (noC_good _))) (noHx_good _) hm ?_)
        simp +contextual -implicitDefEqProofs (maxSteps := 2000000) only [bg_eq, a51, y1, y2, h1', h2', h3', List.length_map, free_I, free_Rg, not_true_eq_false, not_false_eq_true, false_or, ruB, rh_no, Int.reduceLT, Int.reduceLE, Int.reduceAdd, Int.reduceSub, Int.reduceMul, Int.reduceNeg, Int.reduceToNat, Int.reduceEq, Int.reduceNe, Int.reduceTDiv, Int.reduceTMod, implies_true, putL, appN, appX, appC, Eng.Fi, reduceCtorEq, exists_eq_left', exists_eq_left, if_true, if_false, List.replicate, Nat.reduceAdd, Nat.reduceSub, Nat.reduceMul, Nat.reduceLeDiff, Nat.reduceLT, Nat.reduceEqDiff]
      · have h3' := eq_false h3
        refine c51.fok (by simp only [subs, sub1, free_I, free_Rg]) (Cor.run (addC_good g_rCount (addC_good g_rSearchErr (noC_good _))) (noHx_good _) hm ?_)
        simp +contextual -implicitDefEqProofs (maxSteps := 2000000) only [bg_eq, a51, y1, h1', h2', h3', List.length_map, free_I, free_Rg, not_true_eq_false, not_false_eq_true, ruB, rh_no, Int.reduceLT, Int.reduceLE, Int.reduceAdd, Int.reduceSub, Int.reduceMul, Int.reduceNeg, Int.reduceToNat, Int.reduceEq, Int.reduceNe, Int.reduceTDiv, Int.reduceTMod, implies_true, putL, appN, appX, appC, Eng.Fi, reduceCtorEq, exists_eq_left', exists_eq_left, if_true, if_false, List.replicate, Nat.reduceAdd, Nat.reduceSub, Nat.reduceMul, Nat.reduceLeDiff, Nat.reduceLT, Nat.reduceEqDiff]
    · have h2' := eq_false h2
      refine c51.fok (by simp only [subs, sub1, free_I, free_Rg]) (Cor.run (addC_good g_rCount (addC_good g_rSearchErr (noC_good _))) (noHx_good _) hm ?_)
      simp +contextual -implicitDefEqProofs (maxSteps := 2000000) only [bg_eq, a51, h1', h2', List.length_map, free_I, free_Rg, not_true_eq_false, not_false_eq_true, ruB, rh_no, Int.reduceLT, Int.reduceLE, Int.reduceAdd, Int.reduceSub, Int.reduceMul, Int.reduceNeg, Int.reduceToNat, Int.reduceEq, Int.reduceNe, Int.reduceTDiv, Int.reduceTMod, implies_true, putL, appN, appX, appC, Eng.Fi, reduceCtorEq, exists_eq_left', exists_eq_left, if_true, if_false, List.replicate, Nat.reduceAdd, Nat.reduceSub, Nat.reduceMul, Nat.reduceLeDiff, Nat.reduceLT, Nat.reduceEqDiff]
  · have h1' := eq_false h1
    refine c51.fok (by simp only [subs, sub1, free_I, free_Rg]) (Cor.run (addC_good g_rCount (addC_good g_rSearchErr (noC_good _))) (noHx_good _) hm ?_)
    simp +contextual -implicitDefEqProofs (maxSteps := 2000000) only [bg_eq, a51, h1', List.length_map, free_I, free_Rg, not_true_eq_false, not_false_eq_true, ruB, rh_no, Int.reduceLT, Int.reduceLE, Int.reduceAdd, Int.reduceSub, Int.reduceMul, Int.reduceNeg, Int.reduceToNat, Int.reduceEq, Int.reduceNe, Int.reduceTDiv, Int.reduceTMod, implies_true, putL, appN, appX, appC, Eng.Fi, reduceCtorEq, exists_eq_left', exists_eq_left, if_true, if_false, List.replicate, Nat.reduceAdd, Nat.reduceSub, Nat.reduceMul, Nat.reduceLeDiff, Nat.reduceLT, Nat.reduceEqDiff]
noncomputable def cf_few6 : List AV → Option AV
  | [x_v] => onSr x_v fun x => some (.bool (decide (fwP x)))
  | _ => none
theorem g_few6 : Fn P 51 cf_few6 := fun args v hh => by
  unfold cf_few6 at hh; split at hh
  · obtain ⟨x, rfl, hh1⟩ := onSr_inv hh
    have hk := Option.some.inj hh1; subst hk; exact k_few6 _
  · cases hh
theorem x_few6 (x : Sr) : cf_few6 [eSr x] = some (.bool (decide (fwP x))) := by
  simp only [cf_few6, onSr_e]
theorem k_CopySearch (x : Sr) (h : x.st.length ≤ 1000 ∧ x.rd.length ≤ 1000) : FOk P 56 [eSr x] (eSr x) := by
  have y1 := x_CopyInts x.st (by simp only [eq_iff_iff, iff_true]; exact h.1)
  have y2 := x_CopyReadings x.rd (by simp only [eq_iff_iff, iff_true]; exact h.2)
  refine c56.fok (by simp only [subs, sub1, free_I, free_Rg]) (Cor.run (addC_good g_CopyReadings (addC_good g_CopyInts (noC_good _))) (noHx_good _) hm ?_)
  simp +contextual -implicitDefEqProofs (maxSteps := 2000000) only [bg_eq, a56, y1, y2, rs_nil, rs_t, rs_f, ag_nils, ag_sl, ag_vs, ag_str, ag_ptr, ag_nilp, ag_vp, ag_fun, free_I, free_Rg, ruB, rh_no, Int.reduceLT, Int.reduceLE, Int.reduceAdd, Int.reduceSub, Int.reduceMul, Int.reduceNeg, Int.reduceToNat, Int.reduceEq, Int.reduceNe, Int.reduceTDiv, Int.reduceTMod, implies_true, putL, appN, appX, appC, Eng.Fi, reduceCtorEq, exists_eq_left', exists_eq_left, if_true, if_false, List.replicate, Nat.reduceAdd, Nat.reduceSub, Nat.reduceMul, Nat.reduceLeDiff, Nat.reduceLT, Nat.reduceEqDiff]
noncomputable def cf_CopySearch : List AV → Option AV
  | [x_v] => onSr x_v fun x => if x.st.length ≤ 1000 ∧ x.rd.length ≤ 1000 then some (eSr x) else none
  | _ => none
theorem g_CopySearch : Fn P 56 cf_CopySearch := fun args v hh => by
  unfold cf_CopySearch at hh; split at hh
  · obtain ⟨x, rfl, hh1⟩ := onSr_inv hh
    split at hh1
    · rename_i hc; have hk := Option.some.inj hh1; subst hk; exact k_CopySearch _ hc
    · cases hh1
  · cases hh
theorem x_CopySearch (x : Sr) (hc : (x.st.length ≤ 1000 ∧ x.rd.length ≤ 1000) = True) : cf_CopySearch [eSr x] = some (eSr x) := by
  simp only [cf_CopySearch, onSr_e]
  exact if_pos (by rw [hc]; trivial)
end Wa
open Go Go.Proofs Eng
set_option maxRecDepth 100000
set_option linter.unusedSimpArgs false
set_option linter.unusedVariables false
namespace Wa
abbrev MS := Option (List Pa × Nat × Nat)
def Jm : MS → List HEnt
  | none => [⟨0, 0, .rows 105 1 [.nilslice]⟩]
  | some (l, i, g) => [⟨i + 2, g + 2, .rows 108 4 (l.map ePa)⟩, ⟨0, 0, .rows 105 1 [.slice (i + 2) 4 0 l.length]⟩]
def Nm : MS → Nat
  | none => 2
  | some (_, i, _) => i + 3
def mok (k : Nat) : MS → Prop
  | none => True
  | some (l, i, g) => g ≤ i ∧ 0 < l.length ∧ l.length ≤ k
theorem ePa_inj (a b : Pa) (h : ePa a = ePa b) : a = b := by
  cases a; cases b
  simp only [AV.agg.injEq, List.cons.injEq, AV.int.injEq, true_and, and_true] at h
  simp only [Pa.mk.injEq]
  exact h
theorem Jm_inj : ∀ a b : MS, Jm a = Jm b → a = b
  | none, none, _ => rfl
  | none, some (l, id, g), h => by simp [Jm] at h
  | some (l, id, g), none, h => by simp [Jm] at h
  | some (l, id, g), some (l', id', g'), h => by
    simp only [Jm, List.cons.injEq, HEnt.mk.injEq, ABlk.rows.injEq, true_and, and_true] at h
    obtain ⟨⟨h1, h2, h3⟩, h4⟩ := h
    rw [show id = id' by omega, show g = g' by omega, map_inj ePa_inj _ _ h3]
def stMa (th : Int) (a : MS) (v : Pa × Int) : MS := if v.2 ≤ th then (match a with
    | none => some ([v.1], 0, 0)
    | some (l, i, g) => some (l ++ [v.1], i + 1, g)) else a
def stM (th : Int) (a : MS) (v : List AV) : MS × Jk := (stMa th a (dY v), .nx)
def lsM : MS → List Pa
  | none => []
  | some (l, _, _) => l
theorem stMa_ls (th : Int) (a : MS) (v : Pa × Int) : lsM (stMa th a v) = lsM a ++ (if v.2 ≤ th then [v.1] else []) := by
  unfold stMa
  split
  · cases a <;> rfl
  · simp
theorem stMa_ok {th : Int} {a : MS} {v : Pa × Int} {k : Nat} (h : mok k a) : mok (k + 1) (stMa th a v) := by
  unfold stMa
  split
  · cases a with
    | none => exact ⟨Nat.le_refl _, by simp, by simp⟩
    | some q =>
      obtain ⟨l, i, g⟩ := q
      obtain ⟨h1, h2, h3⟩ := h
      refine ⟨by omega, by simp, ?_⟩
      simp only [List.length_append, List.length_cons, List.length_nil]
      omega
  · cases a with
    | none => trivial
    | some q =>
      obtain ⟨l, i, g⟩ := q
      obtain ⟨h1, h2, h3⟩ := h
      exact ⟨h1, h2, by omega⟩
theorem foldM_ls (x : Sr) (th : Int) : ∀ (ps : List Pa) (a : MS), lsM ((ps.map (eY x)).foldl (fun a v => (stM th a v).1) a) = lsM a ++ ps.filter (fun p => decide (mfV p x.su x.rd ≤ th))
  | [], a => by simp
  | p :: ps, a => by
    rw [List.map_cons, List.foldl_cons, foldM_ls x th ps]
    show lsM (stMa th a (dY (eY x p))) ++ _ = _
    rw [stMa_ls, dY_e, List.filter_cons]
    simp only [decide_eq_true_eq]
    split <;> simp
def meE (x : Sr) (th : Int) : Int := firstE [srE x, unl (0 ≤ th ∧ th ≤ 12000000000) 2]
def maL (x : Sr) (th : Int) : List Pa := (prL x).filter fun p => decide (mfV p x.su x.rd ≤ th)
def meV (x : Sr) (th : Int) : AV := if meE x th = 0 then .tup [.vs ((maL x th).map ePa), I 0] else .tup [.vs [], I (meE x th)]
def S_mi (x : Sr) (th : Int) : AState := ⟨[.any, .any, .vp [eSr x] 0 0, .vp [I th] 0 0, .nilslice, I 0, .any, .any, .any, .any, .any, .any, .any, .any, .any, .any, .any, .any, .any, .any, .any, .any, .any, .any, .any, .any, .any, .any, .any, .any, .any, .any], [], 0⟩
def S_mi2 (x : Sr) (th : Int) : AState := ⟨[.any, .any, .vp [eSr x] 0 0, .vp [I th] 0 0, .any, .any, .any, .ptr 0 1 0 0, .any, .any, .any, .any, .any, .any, .any, .any, .any, .any, .any, .any, .any, .any, .any, .any, .any, .any, .any, .any, .any, .any, .any, .any], Jm none, 1⟩
set_option maxHeartbeats 4000000 in
theorem k_MatchesIn (x : Sr) (th : Int) (hpl : (prL x).length ≤ 10000) : FOk P 61 [eSr x, I th] (meV x th) := by
  have y1 := x_CheckSearch x
  have y2 := x_pairs x
  refine c61.fok (y := YH P noHx) (by simp only [subs, sub1, free_I, free_Rg]) ?_
  rw [bg_eq]
  refine Cor.seq (Cor.run (noC_good _) (noHx_good _) hm ?_)
  simp +contextual -implicitDefEqProofs (maxSteps := 2000000) only [eThen_normal, ruB, rh_no, Int.reduceLT, Int.reduceLE, Int.reduceAdd, Int.reduceSub, Int.reduceMul, Int.reduceNeg, Int.reduceToNat, Int.reduceEq, Int.reduceNe, Int.reduceTDiv, Int.reduceTMod, implies_true, putL, appN, appX, appC, Eng.Fi, reduceCtorEq, exists_eq_left', exists_eq_left, if_true, if_false, List.replicate, Nat.reduceAdd, Nat.reduceSub, Nat.reduceMul, Nat.reduceLeDiff, Nat.reduceLT, Nat.reduceEqDiff]
  refine Cor.wk (s2 := S_mi x th) (Wkn.to ⟨0, [], [0, 1], 0, [2, 3, 4, 5]⟩ rfl rfl (by simp [Wk.st, keepT, memN, Wk.fate, Wk.fate0, assoc, getE, Wk.hp, ABlk.sub, sub1, subs, S_mi, free_I, free_Rg])) ?_
  by_cases h0 : meE x th = 0
  · rw [meV, if_pos h0]
    have h1 := h0
    unfold meE at h1
    have hsr := firstE_zero h1 (srE x) (by simp)
    refine Cor.seq (Cor.run (addC_good g_first (addC_good g_unless (addC_good g_within (addC_good g_CheckSearch (noC_good _))))) (noHx_good _) hm ?_)
    simp +contextual -implicitDefEqProofs (maxSteps := 2000000) only [S_mi, y1, x_within, x_unless, x_first, y_first, h1, eThen_normal, not_true_eq_false, ruB, rh_no, Int.reduceLT, Int.reduceLE, Int.reduceAdd, Int.reduceSub, Int.reduceMul, Int.reduceNeg, Int.reduceToNat, Int.reduceEq, Int.reduceNe, Int.reduceTDiv, Int.reduceTMod, implies_true, putL, appN, appX, appC, Eng.Fi, reduceCtorEq, exists_eq_left', exists_eq_left, if_true, if_false, List.replicate, Nat.reduceAdd, Nat.reduceSub, Nat.reduceMul, Nat.reduceLeDiff, Nat.reduceLT, Nat.reduceEqDiff]
    refine Cor.seq (Cor.run (noC_good _) (noHx_good _) hm ?_)
    simp +contextual -implicitDefEqProofs (maxSteps := 2000000) only [eThen_normal, ruB, rh_no, Int.reduceLT, Int.reduceLE, Int.reduceAdd, Int.reduceSub, Int.reduceMul, Int.reduceNeg, Int.reduceToNat, Int.reduceEq, Int.reduceNe, Int.reduceTDiv, Int.reduceTMod, implies_true, putL, appN, appX, appC, Eng.Fi, reduceCtorEq, exists_eq_left', exists_eq_left, if_true, if_false, List.replicate, Nat.reduceAdd, Nat.reduceSub, Nat.reduceMul, Nat.reduceLeDiff, Nat.reduceLT, Nat.reduceEqDiff]
    refine Cor.wk (s2 := S_mi2 x th) (Wkn.to ⟨0, [(0, 0)], [], 1, [2, 3, 7]⟩ rfl rfl (by simp [Wk.st, keepT, memN, Wk.fate, Wk.fate0, assoc, getE, Wk.hp, ABlk.sub, sub1, subs, free_I, free_Rg, S_mi2, Jm])) ?_
    refine Cor.run (addC_good g_pairs (noC_good _)) (noHx_good _) hm ?_
    simp +contextual -implicitDefEqProofs (maxSteps := 2000000) only [S_mi2, y2, ruB, rh_no, Int.reduceLT, Int.reduceLE, Int.reduceAdd, Int.reduceSub, Int.reduceMul, Int.reduceNeg, Int.reduceToNat, Int.reduceEq, Int.reduceNe, Int.reduceTDiv, Int.reduceTMod, implies_true, putL, appN, appX, appC, Eng.Fi, reduceCtorEq, exists_eq_left', exists_eq_left, if_true, if_false, List.replicate, Nat.reduceAdd, Nat.reduceSub, Nat.reduceMul, Nat.reduceLeDiff, Nat.reduceLT, Nat.reduceEqDiff]
    refine Cor.rangeL (addC_good g_pairs (noC_good _)) (noHx_good _) hm (fun _ _ _ _ => rfl) Jm Nm (stM th) mok (x0 := none) rfl (sqPairs x (srE_z hsr)) rfl rfl trivial Jm_inj ?_ rfl rfl ?_ ?_ ?_ ?_ ?_
    · intro a e he
      cases a with
      | none =>
        simp only [Jm, List.mem_cons, List.not_mem_nil, or_false] at he
        subst he; simp
      | some q =>
        obtain ⟨l, i, g⟩ := q
        simp only [Jm, List.mem_cons, List.not_mem_nil, or_false] at he
        rcases he with rfl | rfl <;> simp
    · intro v hv
      obtain ⟨p, _, rfl⟩ := List.mem_map.1 hv
      rfl
    · intro j a ha
      cases a with
      | none =>
        refine ⟨by simp [Nm], fun e he => ?_⟩
        simp only [Jm, List.mem_cons, List.not_mem_nil, or_false] at he
        subst he
        exact ⟨⟨by simp [Nm], by simp [Nm]⟩, fun φ _ => rfl⟩
      | some q =>
        obtain ⟨l, i, g⟩ := q
        obtain ⟨h1, h2, h3⟩ := ha
        refine ⟨by simp [Nm], fun e he => ?_⟩
        simp only [Jm, List.mem_cons, List.not_mem_nil, or_false] at he
        rcases he with rfl | rfl
        · exact ⟨⟨by simp [Nm], by simp [Nm]; omega⟩, fun φ _ => by simp only [ABlk.sub, free_Pa]⟩
        · exact ⟨⟨by simp [Nm], by simp [Nm]⟩, fun φ hφ => by simp only [ABlk.sub, subs, sub1, hφ (i + 2) (by simp [Nm])]⟩
    · intro j v a hj ha _
      exact stMa_ok ha
    · intro j v a hj ha oR oB f go
      obtain ⟨p, hp, rfl⟩ := List.mem_map.1 (List.mem_of_getElem? hj)
      have hjl : j < (prL x).length := by
        have := (List.getElem?_eq_some_iff.1 hj).1
        simpa using this
      simp only [stM, dY_e] at go ⊢
      unfold stMa at go
      simp only at go
      by_cases c1 : mfV p x.su x.rd ≤ th
      · have c1' := eq_true c1
        rw [if_pos c1] at go
        cases a with
        | none =>
          have o1 : (1 ≤ maxLen) = True := mx (by omega)
          simp +contextual -implicitDefEqProofs (maxSteps := 2000000) only [Jm, Nm, c1', rs_nil, rs_t, rs_f, ag_nils, ag_sl, ag_vs, ag_str, ag_ptr, ag_nilp, ag_vp, ag_fun, o1, sp_cons, sp_nil, goB_eq, jk_n, jk_r, jk_e, fi_nx, ruB, rh_no, Int.reduceLT, Int.reduceLE, Int.reduceAdd, Int.reduceSub, Int.reduceMul, Int.reduceNeg, Int.reduceToNat, Int.reduceEq, Int.reduceNe, Int.reduceTDiv, Int.reduceTMod, implies_true, putL, appN, appX, appC, Eng.Fi, reduceCtorEq, exists_eq_left', exists_eq_left, if_true, if_false, List.replicate, Nat.reduceAdd, Nat.reduceSub, Nat.reduceMul, Nat.reduceLeDiff, Nat.reduceLT, Nat.reduceEqDiff]
          refine go _ [.any, .any, .any, .any, .any, .any, .any, .any, .any, .any, .any, .any, .any, .any, .any, .any, .any, .any, .any, .any, .any, .any, .any, .any, .any, .any, .any, .any, .any, .any, .any, .any] (Wkn.trans (Wkn.sub (hp2 := [⟨1, 1, .obj oB⟩, ⟨4, 4, .rows 108 4 [.agg [I p.y, I p.z, I p.h, I p.s]]⟩, ⟨0, 0, .rows 105 1 [.slice 4 4 0 1]⟩]) ?_) (Wkn.to ⟨2, [(4, 2)], [], 3, []⟩ rfl ?_ ?_))
          · intro e he
            simp only [List.mem_cons, List.not_mem_nil, or_false] at he ⊢
            rcases he with rfl | rfl | rfl <;> simp
          · simp [Wk.ok, idg, Wk.isK, Wk.isF, nodupN, memN, assoc]
          · simp [Wk.st, keepT, memN, Wk.fate, Wk.fate0, assoc, getE, Wk.hp, ABlk.sub, sub1, subs, Jm, Nm, free_I, free_Rg, free_Pa, subs_append]
        | some q =>
          obtain ⟨l, i, g⟩ := q
          obtain ⟨h1, h2, h3⟩ := ha
          have f0 : (i + 2 = 0) = False := eq_false (by omega)
          have f1 : (0 = i + 2) = False := eq_false (by omega)
          have f2 : (i + 2 = 1) = False := eq_false (by omega)
          have f3 : (1 = i + 2) = False := eq_false (by omega)
          have f4 : (g + 2 = 0) = False := eq_false (by omega)
          have f5 : (0 = g + 2) = False := eq_false (by omega)
          have f6 : (g + 2 = 1) = False := eq_false (by omega)
          have f7 : (1 = g + 2) = False := eq_false (by omega)
          have f8 : (i + 2 = i + 3) = False := eq_false (by omega)
          have f9 : (i + 3 = i + 2) = False := eq_false (by omega)
          have f10 : (g + 2 = i + 3) = False := eq_false (by omega)
          have f11 : (i + 3 = g + 2) = False := eq_false (by omega)
          have f12 : (i + 3 = 0) = False := eq_false (by omega)
          have f13 : (0 = i + 3) = False := eq_false (by omega)
          have f14 : (i + 3 = 1) = False := eq_false (by omega)
          have f15 : (1 = i + 3) = False := eq_false (by omega)
          have m1 : (l.length + 1 ≤ maxLen) = True := mx (by omega)
          have m2 : ((l.length + 1) * 32 ≤ 140737488355328) = True := by simp only [eq_iff_iff, iff_true]; omega
          have t0 : (l.map ePa).length = l.length := by simp
          simp +contextual -implicitDefEqProofs (maxSteps := 2000000) only [Jm, Nm, c1', rs_nil, rs_t, rs_f, ag_nils, ag_sl, ag_vs, ag_str, ag_ptr, ag_nilp, ag_vp, ag_fun, m1, m2, t0, Nat.add_assoc, Nat.le_refl, f0, f1, f2, f3, f4, f5, f6, f7, f8, f9, f10, f11, f12, f13, f14, f15, sp_cons, sp_nil, goB_eq, jk_n, jk_r, jk_e, fi_nx, ruB, rh_no, Int.reduceLT, Int.reduceLE, Int.reduceAdd, Int.reduceSub, Int.reduceMul, Int.reduceNeg, Int.reduceToNat, Int.reduceEq, Int.reduceNe, Int.reduceTDiv, Int.reduceTMod, implies_true, putL, appN, appX, appC, Eng.Fi, reduceCtorEq, exists_eq_left', exists_eq_left, if_true, if_false, List.replicate, Nat.reduceAdd, Nat.reduceSub, Nat.reduceMul, Nat.reduceLeDiff, Nat.reduceLT, Nat.reduceEqDiff]
          refine go _ [.any, .any, .any, .any, .any, .any, .any, .any, .any, .any, .any, .any, .any, .any, .any, .any, .any, .any, .any, .any, .any, .any, .any, .any, .any, .any, .any, .any, .any, .any, .any, .any] (Wkn.trans (Wkn.sub (hp2 := [⟨1, 1, .obj oB⟩, ⟨i + 5, g + 2, .rows 108 4 (l.map ePa ++ [.agg [I p.y, I p.z, I p.h, I p.s]])⟩, ⟨0, 0, .rows 105 1 [.slice (i + 5) 4 0 (l.length + 1)]⟩]) ?_) (Wkn.to ⟨i + 3, [(i + 5, i + 3)], [], i + 4, []⟩ rfl ?_ ?_))
          · intro e he
            simp only [List.mem_cons, List.not_mem_nil, or_false] at he ⊢
            rcases he with rfl | rfl | rfl <;> simp
          · simp [Wk.ok, idg, Wk.isK, Wk.isF, nodupN, memN, assoc]
            try omega
          · simp [Wk.st, keepT, memN, Wk.fate, Wk.fate0, assoc, getE, Wk.hp, ABlk.sub, sub1, subs, Jm, Nm, free_I, free_Rg, free_Pa, subs_append]
            try omega
      · have c1' := eq_false c1
        rw [if_neg c1] at go
        cases a with
        | none =>
          simp +contextual -implicitDefEqProofs (maxSteps := 2000000) only [Jm, Nm, c1', sp_cons, sp_nil, goB_eq, jk_n, jk_r, jk_e, fi_nx, ruB, rh_no, Int.reduceLT, Int.reduceLE, Int.reduceAdd, Int.reduceSub, Int.reduceMul, Int.reduceNeg, Int.reduceToNat, Int.reduceEq, Int.reduceNe, Int.reduceTDiv, Int.reduceTMod, implies_true, putL, appN, appX, appC, Eng.Fi, reduceCtorEq, exists_eq_left', exists_eq_left, if_true, if_false, List.replicate, Nat.reduceAdd, Nat.reduceSub, Nat.reduceMul, Nat.reduceLeDiff, Nat.reduceLT, Nat.reduceEqDiff]
          exact go _ [.any, .any, .any, .any, .any, .any, .any, .any, .any, .any, .any, .any, .any, .any, .any, .any, .any, .any, .any, .any, .any, .any, .any, .any, .any, .any, .any, .any, .any, .any, .any, .any] (Wkn.to ⟨2, [], [], 2, []⟩ rfl rfl (by simp [Wk.st, keepT, memN, Wk.fate, Wk.fate0, assoc, getE, Wk.hp, ABlk.sub, sub1, subs, Jm, Nm, free_I, free_Rg, free_Pa, subs_append]))
        | some q =>
          obtain ⟨l, i, g⟩ := q
          obtain ⟨h1, h2, h3⟩ := ha
          have f0 : (i + 2 = 0) = False := eq_false (by omega)
          have f1 : (0 = i + 2) = False := eq_false (by omega)
          have f2 : (i + 2 = 1) = False := eq_false (by omega)
          have f3 : (1 = i + 2) = False := eq_false (by omega)
          have f4 : (g + 2 = 0) = False := eq_false (by omega)
          have f5 : (0 = g + 2) = False := eq_false (by omega)
          have f6 : (g + 2 = 1) = False := eq_false (by omega)
          have f7 : (1 = g + 2) = False := eq_false (by omega)
          have f8 : (i + 2 = i + 3) = False := eq_false (by omega)
          have f9 : (i + 3 = i + 2) = False := eq_false (by omega)
          have f10 : (g + 2 = i + 3) = False := eq_false (by omega)
          have f11 : (i + 3 = g + 2) = False := eq_false (by omega)
          have f12 : (i + 3 = 0) = False := eq_false (by omega)
          have f13 : (0 = i + 3) = False := eq_false (by omega)
          have f14 : (i + 3 = 1) = False := eq_false (by omega)
          have f15 : (1 = i + 3) = False := eq_false (by omega)
          simp +contextual -implicitDefEqProofs (maxSteps := 2000000) only [Jm, Nm, c1', Nat.add_assoc, f0, f1, f2, f3, f4, f5, f6, f7, f8, f9, f10, f11, f12, f13, f14, f15, sp_cons, sp_nil, goB_eq, jk_n, jk_r, jk_e, fi_nx, ruB, rh_no, Int.reduceLT, Int.reduceLE, Int.reduceAdd, Int.reduceSub, Int.reduceMul, Int.reduceNeg, Int.reduceToNat, Int.reduceEq, Int.reduceNe, Int.reduceTDiv, Int.reduceTMod, implies_true, putL, appN, appX, appC, Eng.Fi, reduceCtorEq, exists_eq_left', exists_eq_left, if_true, if_false, List.replicate, Nat.reduceAdd, Nat.reduceSub, Nat.reduceMul, Nat.reduceLeDiff, Nat.reduceLT, Nat.reduceEqDiff]
          refine go _ [.any, .any, .any, .any, .any, .any, .any, .any, .any, .any, .any, .any, .any, .any, .any, .any, .any, .any, .any, .any, .any, .any, .any, .any, .any, .any, .any, .any, .any, .any, .any, .any] (Wkn.trans (Wkn.sub (hp2 := [⟨1, 1, .obj oB⟩, ⟨i + 2, g + 2, .rows 108 4 (l.map ePa)⟩, ⟨0, 0, .rows 105 1 [.slice (i + 2) 4 0 l.length]⟩]) ?_) (Wkn.to ⟨i + 3, [], [], i + 3, []⟩ rfl ?_ ?_))
          · intro e he
            simp only [List.mem_cons, List.not_mem_nil, or_false] at he ⊢
            rcases he with rfl | rfl | rfl <;> simp
          · simp [Wk.ok, idg, Wk.isK, Wk.isF, nodupN, memN, assoc]
            try omega
          · simp [Wk.st, keepT, memN, Wk.fate, Wk.fate0, assoc, getE, Wk.hp, ABlk.sub, sub1, subs, Jm, Nm, free_I, free_Rg, free_Pa, subs_append]
            try omega
    · rw [foldS_nx (st := stM th) (fun _ _ => rfl)]
      have ef := foldM_ls x th (prL x) none
      generalize ((prL x).map (eY x)).foldl (fun a v => (stM th a v).1) none = a at *
      have ef : lsM a = maL x th := ef
      rw [← ef]
      show R P _ noHx 0 .normal _ _ _
      cases a with
      | none =>
        simp +contextual -implicitDefEqProofs (maxSteps := 2000000) only [Jm, Nm, lsM, List.map_nil, sp_cons, sp_nil, goB_eq, jk_n, jk_r, jk_e, fi_nx, ruB, rh_no, Int.reduceLT, Int.reduceLE, Int.reduceAdd, Int.reduceSub, Int.reduceMul, Int.reduceNeg, Int.reduceToNat, Int.reduceEq, Int.reduceNe, Int.reduceTDiv, Int.reduceTMod, implies_true, putL, appN, appX, appC, Eng.Fi, reduceCtorEq, exists_eq_left', exists_eq_left, if_true, if_false, List.replicate, Nat.reduceAdd, Nat.reduceSub, Nat.reduceMul, Nat.reduceLeDiff, Nat.reduceLT, Nat.reduceEqDiff]
      | some q =>
        obtain ⟨l, i, g⟩ := q
        simp +contextual -implicitDefEqProofs (maxSteps := 2000000) only [Jm, Nm, lsM, List.length_map, tk_Pa, Nat.le_refl, free_Pa, sp_cons, sp_nil, goB_eq, jk_n, jk_r, jk_e, fi_nx, ruB, rh_no, Int.reduceLT, Int.reduceLE, Int.reduceAdd, Int.reduceSub, Int.reduceMul, Int.reduceNeg, Int.reduceToNat, Int.reduceEq, Int.reduceNe, Int.reduceTDiv, Int.reduceTMod, implies_true, putL, appN, appX, appC, Eng.Fi, reduceCtorEq, exists_eq_left', exists_eq_left, if_true, if_false, List.replicate, Nat.reduceAdd, Nat.reduceSub, Nat.reduceMul, Nat.reduceLeDiff, Nat.reduceLT, Nat.reduceEqDiff]
  · rw [meV, if_neg h0]
    have h1 := h0
    unfold meE at h1
    refine Cor.run (addC_good g_first (addC_good g_unless (addC_good g_within (addC_good g_CheckSearch (noC_good _))))) (noHx_good _) hm ?_
    simp +contextual -implicitDefEqProofs (maxSteps := 2000000) only [S_mi, y1, x_within, x_unless, x_first, y_first, h1, not_false_eq_true, ruB, rh_no, Int.reduceLT, Int.reduceLE, Int.reduceAdd, Int.reduceSub, Int.reduceMul, Int.reduceNeg, Int.reduceToNat, Int.reduceEq, Int.reduceNe, Int.reduceTDiv, Int.reduceTMod, implies_true, putL, appN, appX, appC, Eng.Fi, reduceCtorEq, exists_eq_left', exists_eq_left, if_true, if_false, List.replicate, Nat.reduceAdd, Nat.reduceSub, Nat.reduceMul, Nat.reduceLeDiff, Nat.reduceLT, Nat.reduceEqDiff]
    rfl
noncomputable def cf_MatchesIn : List AV → Option AV
  | [x_v, .int .i64 th] => onSr x_v fun x => if (prL x).length ≤ 10000 then some (meV x th) else none
  | _ => none
theorem g_MatchesIn : Fn P 61 cf_MatchesIn := fun args v hh => by
  unfold cf_MatchesIn at hh; split at hh
  · obtain ⟨x, rfl, hh1⟩ := onSr_inv hh
    split at hh1
    · rename_i hc; have hk := Option.some.inj hh1; subst hk; exact k_MatchesIn _ _ hc
    · cases hh1
  · cases hh
theorem x_MatchesIn (x : Sr) (th : Int) (hc : ((prL x).length ≤ 10000) = True) : cf_MatchesIn [eSr x, .int .i64 th] = some (meV x th) := by
  simp only [cf_MatchesIn, onSr_e]
  exact if_pos (by rw [hc]; trivial)
end Wa
open Go Go.Proofs Eng
set_option maxRecDepth 100000
set_option linter.unusedSimpArgs false
set_option linter.unusedVariables false
namespace Wa
theorem pZ_len (x : Sr) (y : Int) : ∀ (k : Nat) (z : Int), (pZ x y k z).length = k * x.st.length
  | 0, z => by simp [pZ]
  | k + 1, z => by
    rw [pZ, List.length_append, pZ_len x y k, Nat.add_mul, Nat.one_mul]
    simp only [pS, List.length_map]
    omega
theorem pY_len (x : Sr) : ∀ (k : Nat) (y : Int), (pY x k y).length = k * ((x.zh + 1 - x.zl).toNat * x.st.length)
  | 0, y => by simp [pY]
  | k + 1, y => by
    rw [pY, List.length_append, pY_len x k, pZ_len, Nat.add_mul, Nat.one_mul]
    omega
theorem prL_1014 {x : Sr} (h : srE x = 0) : (prL x).length ≤ 1014 ∧ 0 < (prL x).length := by
  obtain ⟨h1, h2, h3, h4⟩ := sr_bd h
  rw [prL, pY_len]
  have a1 : (x.yh + 1 - x.yl).toNat ≤ 13 := by omega
  have a2 : (x.zh + 1 - x.zl).toNat ≤ 13 := by omega
  have b1 : 0 < (x.yh + 1 - x.yl).toNat := by omega
  have b2 : 0 < (x.zh + 1 - x.zl).toNat := by omega
  refine ⟨?_, Nat.mul_pos b1 (Nat.mul_pos b2 h3)⟩
  exact Nat.le_trans (Nat.mul_le_mul a1 (Nat.mul_le_mul a2 h4)) (by decide)
end Wa
