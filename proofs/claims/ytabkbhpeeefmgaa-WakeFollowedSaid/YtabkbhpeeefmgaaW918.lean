import Derived.Test.YtabkbhpeeefmgaaEngS9
import Derived.Test.YtabkbhpeeefmgaaW917
open Go Go.Proofs Eng
set_option maxRecDepth 100000
set_option linter.unusedSimpArgs false
set_option linter.unusedVariables false
def a23 : AC := .seq (.ops false [] [⟨some 2, .box 46 3 1 true, [.t 0], none⟩, ⟨some 3, .box 46 3 1 true, [.t 1], none⟩, ⟨some 4, .p (.mov), [.c (.int .i64 0)], none⟩]) (.seq (.ops true [] [⟨some 7, .p (.faddr 0), [.t 2], none⟩, ⟨some 8, .p (.faddr 0), [.t 7], none⟩, ⟨some 9, .load 1 false, [.t 8], none⟩, ⟨some 10, .p (.faddr 0), [.t 3], none⟩, ⟨some 11, .p (.faddr 0), [.t 10], none⟩, ⟨some 12, .load 1 false, [.t 11], none⟩, ⟨some 13, .p (.binI .sub), [.t 9, .t 12], none⟩, ⟨some 14, .p (.faddr 0), [.t 2], none⟩, ⟨some 15, .p (.faddr 1), [.t 14], none⟩, ⟨some 16, .load 1 false, [.t 15], none⟩, ⟨some 17, .p (.faddr 0), [.t 3], none⟩, ⟨some 18, .p (.faddr 1), [.t 17], none⟩, ⟨some 19, .load 1 false, [.t 18], none⟩, ⟨some 20, .p (.binI .sub), [.t 16, .t 19], none⟩, ⟨some 5, .p (.mov), [.t 13], none⟩, ⟨some 6, .p (.mov), [.t 20], none⟩]) (.seq (.ops false [] [⟨some 21, .p (.mov), [.t 5], none⟩, ⟨some 22, .p (.mov), [.t 5], none⟩, ⟨some 23, .p (.binI .mul), [.t 21, .t 22], none⟩, ⟨some 24, .p (.mov), [.t 6], none⟩, ⟨some 25, .p (.mov), [.t 6], none⟩, ⟨some 26, .p (.binI .mul), [.t 24, .t 25], none⟩, ⟨some 27, .p (.binI .add), [.t 23, .t 26], none⟩, ⟨some 28, .p (.faddr 2), [.t 2], none⟩, ⟨some 29, .load 1 false, [.t 28], none⟩, ⟨some 30, .p (.faddr 2), [.t 3], none⟩, ⟨some 31, .load 1 false, [.t 30], none⟩, ⟨some 32, .p (.binI .sub), [.t 29, .t 31], none⟩, ⟨some 33, .call 89, [.t 32], none⟩, ⟨some 34, .p (.binI .add), [.t 27, .t 33], none⟩, ⟨some 4, .p (.mov), [.t 34], none⟩]) (.ret)))
theorem c23 : FnC Try.prog 23 35 a23 [.tmp 4] := ⟨Try.call23, _, _, Try.func23, rfl, by kernel_rfl, by kernel_rfl, rfl⟩
def a41 : AC := .seq (.ops false [] [⟨some 2, .p (.mov), [.c (.bool false)], none⟩]) (.seq (.ops false [] [⟨some 3, .p (.mov), [.t 0], none⟩, ⟨some 4, .p (.lenS), [.t 3], none⟩, ⟨some 5, .p (.binI .leq), [.t 4, .c (.int .i64 5)], none⟩, ⟨some 2, .p (.mov), [.t 5], none⟩]) (.ret))
theorem c41 : FnC Try.prog 41 6 a41 [.tmp 2] := ⟨Try.call41, _, _, Try.func41, rfl, by kernel_rfl, by kernel_rfl, rfl⟩
def a46 : AC := .seq (.ops false [] [⟨some 1, .box 46 3 1 true, [.t 0], none⟩, ⟨some 2, .p (.mov), [.c (.int .i64 0)], none⟩]) (.seq (.seq (.ops false [] [⟨some 4, .p (.faddr 0), [.t 1], none⟩, ⟨some 5, .load 2 true, [.t 4], none⟩, ⟨some 6, .call 48, [.t 5], none⟩, ⟨some 3, .p (.mov), [.t 6], none⟩]) (.seq (.ops false [] [⟨some 7, .p (.mov), [.t 3], none⟩, ⟨some 8, .p (.binI .neq), [.t 7, .c (.int .i64 0)], none⟩]) (.cond (.t 8) (.seq (.ops false [] [⟨some 9, .p (.mov), [.t 3], none⟩, ⟨some 2, .p (.mov), [.t 9], none⟩]) (.ret)) (.skip)))) (.seq (.seq (.ops false [] [⟨some 10, .p (.faddr 2), [.t 1], none⟩, ⟨some 11, .load 1 false, [.t 10], none⟩, ⟨some 12, .call 20, [.t 11, .c (.int .i64 (-10000)), .c (.int .i64 10000)], none⟩, ⟨some 13, .p (.notB), [.t 12], none⟩]) (.cond (.t 13) (.seq (.ops false [] [⟨some 2, .p (.mov), [.c (.int .i64 2)], none⟩]) (.ret)) (.skip))) (.seq (.ops false [] [⟨some 2, .p (.mov), [.c (.int .i64 0)], none⟩]) (.ret))))
theorem c46 : FnC Try.prog 46 14 a46 [.tmp 2] := ⟨Try.call46, _, _, Try.func46, rfl, by kernel_rfl, by kernel_rfl, rfl⟩
def a48 : AC := .seq (.ops false [] [⟨some 1, .box 44 2 1 true, [.t 0], none⟩, ⟨some 2, .p (.mov), [.c (.int .i64 0)], none⟩]) (.seq (.seq (.ops false [] [⟨some 3, .p (.faddr 0), [.t 1], none⟩, ⟨some 4, .load 1 false, [.t 3], none⟩, ⟨some 5, .call 20, [.t 4, .c (.int .i64 (-1000)), .c (.int .i64 1000)], none⟩, ⟨some 6, .p (.notB), [.t 5], none⟩, ⟨some 7, .p (.mov), [.t 6], none⟩, ⟨some 8, .p (.faddr 1), [.t 1], some (7, false)⟩, ⟨some 9, .load 1 false, [.t 8], some (7, false)⟩, ⟨some 10, .call 20, [.t 9, .c (.int .i64 0), .c (.int .i64 1000)], some (7, false)⟩, ⟨some 11, .p (.notB), [.t 10], some (7, false)⟩, ⟨some 12, .p (.pick), [.t 7, .c (.bool true), .t 11], none⟩]) (.cond (.t 12) (.seq (.ops false [] [⟨some 2, .p (.mov), [.c (.int .i64 2)], none⟩]) (.ret)) (.skip))) (.seq (.ops false [] [⟨some 2, .p (.mov), [.c (.int .i64 0)], none⟩]) (.ret)))
theorem c48 : FnC Try.prog 48 13 a48 [.tmp 2] := ⟨Try.call48, _, _, Try.func48, rfl, by kernel_rfl, by kernel_rfl, rfl⟩
def a85 : AC := .seq (.ops false [] [⟨some 2, .p (.mov), [.c (.int .i64 0)], none⟩]) (.seq (.seq (.ops false [] [⟨some 5, .p (.mov), [.t 0], none⟩, ⟨some 6, .p (.lenS), [.t 5], none⟩, ⟨some 7, .p (.binI .gtr), [.t 6, .c (.int .i64 3)], none⟩]) (.cond (.t 7) (.seq (.ops false [] [⟨some 2, .p (.mov), [.c (.int .i64 8)], none⟩]) (.ret)) (.skip))) (.seq (.seq (.ops false [] [⟨some 3, .p (.mov), [.c (.int .i64 0)], none⟩]) (.block 0 (.loop (.seq (.seq (.ops false [] [⟨some 8, .p (.mov), [.t 3], none⟩, ⟨some 9, .p (.mov), [.t 0], none⟩, ⟨some 10, .p (.lenS), [.t 9], none⟩, ⟨some 11, .p (.binI .lss), [.t 8, .t 10], none⟩]) (.cond (.t 11) (.skip) (.exit 0))) (.seq (.block 1 (.seq (.ops false [] [⟨some 14, .p (.mov), [.t 0], none⟩, ⟨some 15, .p (.mov), [.t 3], none⟩, ⟨some 16, .p (.iaddrS 3), [.t 14, .t 15], none⟩, ⟨some 17, .load 3 true, [.t 16], none⟩, ⟨some 18, .call 46, [.t 17], none⟩, ⟨some 4, .p (.mov), [.t 18], none⟩]) (.seq (.ops false [] [⟨some 19, .p (.mov), [.t 4], none⟩, ⟨some 20, .p (.binI .neq), [.t 19, .c (.int .i64 0)], none⟩]) (.cond (.t 20) (.seq (.ops false [] [⟨some 21, .p (.mov), [.t 4], none⟩, ⟨some 2, .p (.mov), [.t 21], none⟩]) (.ret)) (.skip))))) (.ops false [] [⟨some 12, .p (.mov), [.t 3], none⟩, ⟨some 13, .p (.binI .add), [.t 12, .c (.int .i64 1)], none⟩, ⟨some 3, .p (.mov), [.t 13], none⟩])))))) (.seq (.ops false [] [⟨some 2, .p (.mov), [.c (.int .i64 0)], none⟩]) (.ret))))
theorem c85 : FnC Try.prog 85 22 a85 [.tmp 2] := ⟨Try.call85, _, _, Try.func85, rfl, by kernel_rfl, by kernel_rfl, rfl⟩
def a86 : AC := .seq (.ops false [] [⟨some 2, .p (.mov), [.c (.int .i64 0)], none⟩]) (.seq (.seq (.ops false [] [⟨some 3, .p (.mov), [.t 0], none⟩, ⟨some 4, .call 20, [.t 3, .c (.int .i64 0), .c (.int .i64 10000000)], none⟩, ⟨some 5, .p (.notB), [.t 4], none⟩]) (.cond (.t 5) (.seq (.ops false [] [⟨some 2, .p (.mov), [.c (.int .i64 2)], none⟩]) (.ret)) (.skip))) (.seq (.ops false [] [⟨some 2, .p (.mov), [.c (.int .i64 0)], none⟩]) (.ret)))
theorem c86 : FnC Try.prog 86 6 a86 [.tmp 2] := ⟨Try.call86, _, _, Try.func86, rfl, by kernel_rfl, by kernel_rfl, rfl⟩
namespace Wa
theorem k_rPointErr (p : Pt) : FOk P 48 [ePt p] (I (ptE p)) := by
  unfold ptE
  by_cases h1 : siR p.y
  · have h1' := eq_true h1
    by_cases h2 : heR p.z
    · have h2' := eq_true h2
      rw [unl_t 2 (show ptR p from ⟨h1, h2⟩)]
      unfold siR at h1'
      unfold heR at h2'
      refine c48.fok rfl (Cor.run (addC_good g_Within (noC_good _)) (noHx_good _) hm ?_)
      simp +contextual -implicitDefEqProofs (maxSteps := 2000000) only [bg_eq, a48, x_Within, h1', h2', not_true_eq_false, not_false_eq_true, ruB, rh_no, Int.reduceLT, Int.reduceLE, Int.reduceAdd, Int.reduceSub, Int.reduceMul, Int.reduceNeg, Int.reduceToNat, Int.reduceEq, Int.reduceNe, Int.reduceTDiv, Int.reduceTMod, implies_true, putL, appN, appX, appC, Eng.Fi, reduceCtorEq, exists_eq_left', exists_eq_left, if_true, if_false, List.replicate, Nat.reduceAdd, Nat.reduceSub, Nat.reduceMul, Nat.reduceLeDiff, Nat.reduceLT, Nat.reduceEqDiff]
    · have h2' := eq_false h2
      rw [unl_f 2 (fun h : ptR p => h2 h.2)]
      unfold siR at h1'
      unfold heR at h2'
      refine c48.fok rfl (Cor.run (addC_good g_Within (noC_good _)) (noHx_good _) hm ?_)
      simp +contextual -implicitDefEqProofs (maxSteps := 2000000) only [bg_eq, a48, x_Within, h1', h2', not_true_eq_false, not_false_eq_true, ruB, rh_no, Int.reduceLT, Int.reduceLE, Int.reduceAdd, Int.reduceSub, Int.reduceMul, Int.reduceNeg, Int.reduceToNat, Int.reduceEq, Int.reduceNe, Int.reduceTDiv, Int.reduceTMod, implies_true, putL, appN, appX, appC, Eng.Fi, reduceCtorEq, exists_eq_left', exists_eq_left, if_true, if_false, List.replicate, Nat.reduceAdd, Nat.reduceSub, Nat.reduceMul, Nat.reduceLeDiff, Nat.reduceLT, Nat.reduceEqDiff]
  · have h1' := eq_false h1
    rw [unl_f 2 (fun h : ptR p => h1 h.1)]
    unfold siR at h1'
    refine c48.fok rfl (Cor.run (addC_good g_Within (noC_good _)) (noHx_good _) hm ?_)
    simp +contextual -implicitDefEqProofs (maxSteps := 2000000) only [bg_eq, a48, x_Within, h1', not_true_eq_false, not_false_eq_true, ruB, rh_no, Int.reduceLT, Int.reduceLE, Int.reduceAdd, Int.reduceSub, Int.reduceMul, Int.reduceNeg, Int.reduceToNat, Int.reduceEq, Int.reduceNe, Int.reduceTDiv, Int.reduceTMod, implies_true, putL, appN, appX, appC, Eng.Fi, reduceCtorEq, exists_eq_left', exists_eq_left, if_true, if_false, List.replicate, Nat.reduceAdd, Nat.reduceSub, Nat.reduceMul, Nat.reduceLeDiff, Nat.reduceLT, Nat.reduceEqDiff]
def cf_rPointErr : List AV → Option AV
  | [.agg [.int .i64 p_y, .int .i64 p_z]] => some (I (ptE (⟨p_y, p_z⟩ : Pt)))
  | _ => none
theorem g_rPointErr : Fn P 48 cf_rPointErr := fun args v hh => by
  unfold cf_rPointErr at hh; split at hh
  · have hk := Option.some.inj hh; subst hk; exact k_rPointErr ⟨_, _⟩
  · cases hh
theorem x_rPointErr (p : Pt) : cf_rPointErr [.agg [I p.y, I p.z]] = some (I (ptE p)) := by
  rfl
theorem k_rVortexErr (v : Vo) : FOk P 46 [eVo v] (I (voE v)) := by
  have y1 := x_rPointErr ⟨v.y, v.z⟩
  unfold voE
  by_cases h1 : ptE ⟨v.y, v.z⟩ = 0
  · rw [h1, fE0, firstE_one]
    rw [h1] at y1
    by_cases h2 : -10000 ≤ v.s ∧ v.s ≤ 10000
    · have h2' := eq_true h2
      rw [unl_t 2 h2]
      refine c46.fok rfl (Cor.run (addC_good g_rPointErr (addC_good g_Within (noC_good _))) (noHx_good _) hm ?_)
      simp +contextual -implicitDefEqProofs (maxSteps := 2000000) only [bg_eq, a46, x_Within, y1, h2', not_true_eq_false, not_false_eq_true, ruB, rh_no, Int.reduceLT, Int.reduceLE, Int.reduceAdd, Int.reduceSub, Int.reduceMul, Int.reduceNeg, Int.reduceToNat, Int.reduceEq, Int.reduceNe, Int.reduceTDiv, Int.reduceTMod, implies_true, putL, appN, appX, appC, Eng.Fi, reduceCtorEq, exists_eq_left', exists_eq_left, if_true, if_false, List.replicate, Nat.reduceAdd, Nat.reduceSub, Nat.reduceMul, Nat.reduceLeDiff, Nat.reduceLT, Nat.reduceEqDiff]
    · have h2' := eq_false h2
      rw [unl_f 2 h2]
      refine c46.fok rfl (Cor.run (addC_good g_rPointErr (addC_good g_Within (noC_good _))) (noHx_good _) hm ?_)
      simp +contextual -implicitDefEqProofs (maxSteps := 2000000) only [bg_eq, a46, x_Within, y1, h2', not_true_eq_false, not_false_eq_true, ruB, rh_no, Int.reduceLT, Int.reduceLE, Int.reduceAdd, Int.reduceSub, Int.reduceMul, Int.reduceNeg, Int.reduceToNat, Int.reduceEq, Int.reduceNe, Int.reduceTDiv, Int.reduceTMod, implies_true, putL, appN, appX, appC, Eng.Fi, reduceCtorEq, exists_eq_left', exists_eq_left, if_true, if_false, List.replicate, Nat.reduceAdd, Nat.reduceSub, Nat.reduceMul, Nat.reduceLeDiff, Nat.reduceLT, Nat.reduceEqDiff]
  · have h1' := eq_false h1
    rw [fE1 h1]
    refine c46.fok rfl (Cor.run (addC_good g_rPointErr (addC_good g_Within (noC_good _))) (noHx_good _) hm ?_)
    simp +contextual -implicitDefEqProofs (maxSteps := 2000000) only [bg_eq, a46, x_Within, y1, h1', not_true_eq_false, not_false_eq_true, ruB, rh_no, Int.reduceLT, Int.reduceLE, Int.reduceAdd, Int.reduceSub, Int.reduceMul, Int.reduceNeg, Int.reduceToNat, Int.reduceEq, Int.reduceNe, Int.reduceTDiv, Int.reduceTMod, implies_true, putL, appN, appX, appC, Eng.Fi, reduceCtorEq, exists_eq_left', exists_eq_left, if_true, if_false, List.replicate, Nat.reduceAdd, Nat.reduceSub, Nat.reduceMul, Nat.reduceLeDiff, Nat.reduceLT, Nat.reduceEqDiff]
def cf_rVortexErr : List AV → Option AV
  | [.agg [.int .i64 v_y, .int .i64 v_z, .int .i64 v_s]] => some (I (voE (⟨v_y, v_z, v_s⟩ : Vo)))
  | _ => none
theorem g_rVortexErr : Fn P 46 cf_rVortexErr := fun args v hh => by
  unfold cf_rVortexErr at hh; split at hh
  · have hk := Option.some.inj hh; subst hk; exact k_rVortexErr ⟨_, _, _⟩
  · cases hh
theorem x_rVortexErr (v : Vo) : cf_rVortexErr [.agg [I v.y, I v.z, I v.s]] = some (I (voE v)) := by
  rfl
end Wa
open Go Go.Proofs Eng
set_option maxRecDepth 100000
set_option linter.unusedSimpArgs false
set_option linter.unusedVariables false
namespace Wa
theorem k_rMissErr (n : Int) : FOk P 86 [I n] (I (unl (miR n) 2)) := by
  by_cases h : miR n
  · have h' := eq_true h
    rw [unl_t 2 h]
    unfold miR at h'
    refine c86.fok rfl (Cor.run (addC_good g_Within (noC_good _)) (noHx_good _) hm ?_)
    simp +contextual -implicitDefEqProofs (maxSteps := 2000000) only [bg_eq, a86, x_Within, h', not_true_eq_false, ruB, rh_no, Int.reduceLT, Int.reduceLE, Int.reduceAdd, Int.reduceSub, Int.reduceMul, Int.reduceNeg, Int.reduceToNat, Int.reduceEq, Int.reduceNe, Int.reduceTDiv, Int.reduceTMod, implies_true, putL, appN, appX, appC, Eng.Fi, reduceCtorEq, exists_eq_left', exists_eq_left, if_true, if_false, List.replicate, Nat.reduceAdd, Nat.reduceSub, Nat.reduceMul, Nat.reduceLeDiff, Nat.reduceLT, Nat.reduceEqDiff]
  · have h' := eq_false h
    rw [unl_f 2 h]
    unfold miR at h'
    refine c86.fok rfl (Cor.run (addC_good g_Within (noC_good _)) (noHx_good _) hm ?_)
    simp +contextual -implicitDefEqProofs (maxSteps := 2000000) only [bg_eq, a86, x_Within, h', not_false_eq_true, ruB, rh_no, Int.reduceLT, Int.reduceLE, Int.reduceAdd, Int.reduceSub, Int.reduceMul, Int.reduceNeg, Int.reduceToNat, Int.reduceEq, Int.reduceNe, Int.reduceTDiv, Int.reduceTMod, implies_true, putL, appN, appX, appC, Eng.Fi, reduceCtorEq, exists_eq_left', exists_eq_left, if_true, if_false, List.replicate, Nat.reduceAdd, Nat.reduceSub, Nat.reduceMul, Nat.reduceLeDiff, Nat.reduceLT, Nat.reduceEqDiff]
def cf_rMissErr : List AV → Option AV
  | [.int .i64 n] => some (.int .i64 (unl (miR n) 2))
  | _ => none
theorem g_rMissErr : Fn P 86 cf_rMissErr := fun args v h => by
  unfold cf_rMissErr at h; split at h
  · have h := Option.some.inj h; subst h; exact k_rMissErr _
  · cases h
theorem x_rMissErr (n : Int) : cf_rMissErr [.int .i64 n] = some (.int .i64 (unl (miR n) 2)) := rfl
def S_rs (l : List Vo) (k : Nat) : AState := ⟨[.vs (l.map eVo), .any, .any, I k, .any, .any, .any, .any, .any, .any, .any, .any, .any, .any, .any, .any, .any, .any, .any, .any, .any, .any], [], 0⟩
theorem k_rScanErr (l : List Vo) : FOk P 85 [.vs (l.map eVo)] (I (scE l)) := by
  rw [scE]
  by_cases h3 : 3 < (l.length : Int)
  · have h3' := eq_true h3
    rw [if_pos h3]
    refine c85.fok (by simp only [subs, sub1, free_Vo]) (Cor.run (addC_good g_rVortexErr (noC_good _)) (noHx_good _) hm ?_)
    simp +contextual -implicitDefEqProofs (maxSteps := 2000000) only [bg_eq, a85, List.length_map, h3', ruB, rh_no, Int.reduceLT, Int.reduceLE, Int.reduceAdd, Int.reduceSub, Int.reduceMul, Int.reduceNeg, Int.reduceToNat, Int.reduceEq, Int.reduceNe, Int.reduceTDiv, Int.reduceTMod, implies_true, putL, appN, appX, appC, Eng.Fi, reduceCtorEq, exists_eq_left', exists_eq_left, if_true, if_false, List.replicate, Nat.reduceAdd, Nat.reduceSub, Nat.reduceMul, Nat.reduceLeDiff, Nat.reduceLT, Nat.reduceEqDiff]
  · have h3' := eq_false h3
    rw [if_neg h3]
    refine c85.fok (by simp only [subs, sub1, free_Vo]) (Cor.run (addC_good g_rVortexErr (noC_good _)) (noHx_good _) hm ?_)
    simp +contextual -implicitDefEqProofs (maxSteps := 2000000) only [bg_eq, a85, List.length_map, h3', Int.natCast_zero, ruB, rh_no, Int.reduceLT, Int.reduceLE, Int.reduceAdd, Int.reduceSub, Int.reduceMul, Int.reduceNeg, Int.reduceToNat, Int.reduceEq, Int.reduceNe, Int.reduceTDiv, Int.reduceTMod, implies_true, putL, appN, appX, appC, Eng.Fi, reduceCtorEq, exists_eq_left', exists_eq_left, if_true, if_false, List.replicate, Nat.reduceAdd, Nat.reduceSub, Nat.reduceMul, Nat.reduceLeDiff, Nat.reduceLT, Nat.reduceEqDiff]
    refine Cor.lp (addC_good g_rVortexErr (noC_good _)) (noHx_good _) hm (S_rs l) (fun k => k ≤ l.length ∧ voG l = voG (l.drop k)) (fun k => l.length - k) (a := 0) ⟨Nat.zero_le _, rfl⟩ (Wkn.keep [0, 3] rfl) ?_
    intro f k ⟨hk, hf⟩ go
    rcases Nat.lt_or_ge k l.length with h | h
    · have e1 : decide ((k : Int) < (l.length : Int)) = true := lt_t h
      have e2 : (l.map eVo)[k]? = some (eVo l[k]) := get_e eVo l h
      have e3 : IntKind.wrap .i64 ((k : Int) + 1) = ((k + 1 : Nat) : Int) := suc_w (by omega)
      have y := x_rVortexErr l[k]
      rw [List.drop_eq_getElem_cons h, voG] at hf
      generalize l[k] = r at *
      by_cases c1 : voE r = 0
      · have c1' := eq_true c1
        rw [if_pos c1] at hf
        simp +contextual -implicitDefEqProofs (maxSteps := 2000000) only [S_rs, e1, e2, e3, y, c1', List.length_map, not_true_eq_false, ruB, rh_no, Int.reduceLT, Int.reduceLE, Int.reduceAdd, Int.reduceSub, Int.reduceMul, Int.reduceNeg, Int.reduceToNat, Int.reduceEq, Int.reduceNe, Int.reduceTDiv, Int.reduceTMod, implies_true, putL, appN, appX, appC, Eng.Fi, reduceCtorEq, exists_eq_left', exists_eq_left, if_true, if_false, List.replicate, Nat.reduceAdd, Nat.reduceSub, Nat.reduceMul, Nat.reduceLeDiff, Nat.reduceLT, Nat.reduceEqDiff]
        exact go _ (k + 1) ⟨h, hf⟩ (by omega) (Wkn.keep [0, 3] rfl)
      · have c1' := eq_false c1
        rw [if_neg c1] at hf
        rw [hf]
        simp +contextual -implicitDefEqProofs (maxSteps := 2000000) only [S_rs, e1, e2, e3, y, c1', List.length_map, not_false_eq_true, ruB, rh_no, Int.reduceLT, Int.reduceLE, Int.reduceAdd, Int.reduceSub, Int.reduceMul, Int.reduceNeg, Int.reduceToNat, Int.reduceEq, Int.reduceNe, Int.reduceTDiv, Int.reduceTMod, implies_true, putL, appN, appX, appC, Eng.Fi, reduceCtorEq, exists_eq_left', exists_eq_left, if_true, if_false, List.replicate, Nat.reduceAdd, Nat.reduceSub, Nat.reduceMul, Nat.reduceLeDiff, Nat.reduceLT, Nat.reduceEqDiff]
    · have e1 : decide ((k : Int) < (l.length : Int)) = false := lt_f h
      rw [List.drop_eq_nil_of_le h, voG] at hf
      rw [hf]
      simp +contextual -implicitDefEqProofs (maxSteps := 2000000) only [S_rs, e1, List.length_map, ruB, rh_no, Int.reduceLT, Int.reduceLE, Int.reduceAdd, Int.reduceSub, Int.reduceMul, Int.reduceNeg, Int.reduceToNat, Int.reduceEq, Int.reduceNe, Int.reduceTDiv, Int.reduceTMod, implies_true, putL, appN, appX, appC, Eng.Fi, reduceCtorEq, exists_eq_left', exists_eq_left, if_true, if_false, List.replicate, Nat.reduceAdd, Nat.reduceSub, Nat.reduceMul, Nat.reduceLeDiff, Nat.reduceLT, Nat.reduceEqDiff]
def cf_rScanErr : List AV → Option AV
  | [.vs l_v] => onL dVo l_v fun l => some (I (scE l))
  | _ => none
theorem g_rScanErr : Fn P 85 cf_rScanErr := fun args v hh => by
  unfold cf_rScanErr at hh; split at hh
  · obtain ⟨l, rfl, hh1⟩ := onL_inv dVo_inv hh
    have hk := Option.some.inj hh1; subst hk; exact k_rScanErr _
  · cases hh
theorem x_rScanErr (l : List Vo) : cf_rScanErr [.vs (l.map eVo)] = some (I (scE l)) := by
  simp only [cf_rScanErr, onL_map dVo_e]
theorem k_brief6 (l : List Vo) : FOk P 41 [.vs (l.map eVo)] (.bool (decide ((l.length : Int) ≤ 5))) := by
  refine c41.fok (by simp only [subs, sub1, free_Vo]) (Cor.run (noC_good _) (noHx_good _) hm ?_)
  simp +contextual -implicitDefEqProofs (maxSteps := 2000000) only [bg_eq, a41, List.length_map, ruB, rh_no, Int.reduceLT, Int.reduceLE, Int.reduceAdd, Int.reduceSub, Int.reduceMul, Int.reduceNeg, Int.reduceToNat, Int.reduceEq, Int.reduceNe, Int.reduceTDiv, Int.reduceTMod, implies_true, putL, appN, appX, appC, Eng.Fi, reduceCtorEq, exists_eq_left', exists_eq_left, if_true, if_false, List.replicate, Nat.reduceAdd, Nat.reduceSub, Nat.reduceMul, Nat.reduceLeDiff, Nat.reduceLT, Nat.reduceEqDiff]
def cf_brief6 : List AV → Option AV
  | [.vs l_v] => onL dVo l_v fun l => some (.bool (decide ((l.length : Int) ≤ 5)))
  | _ => none
theorem g_brief6 : Fn P 41 cf_brief6 := fun args v hh => by
  unfold cf_brief6 at hh; split at hh
  · obtain ⟨l, rfl, hh1⟩ := onL_inv dVo_inv hh
    have hk := Option.some.inj hh1; subst hk; exact k_brief6 _
  · cases hh
theorem x_brief6 (l : List Vo) : cf_brief6 [.vs (l.map eVo)] = some (.bool (decide ((l.length : Int) ≤ 5))) := by
  simp only [cf_brief6, onL_map dVo_e]
theorem k_rOff (v w : Vo) (h : voR v ∧ voR w) : FOk P 23 [eVo v, eVo w] (I (offV v w)) := by
  obtain ⟨⟨b1, b2, b3⟩, b4, b5, b6, b7⟩ := off_bd h.1 h.2
  have w1 : IntKind.wrap .i64 (v.y - w.y) = v.y - w.y := wrap64 (by omega) (by omega)
  have w2 : IntKind.wrap .i64 (v.z - w.z) = v.z - w.z := wrap64 (by omega) (by omega)
  have w3 : IntKind.wrap .i64 ((v.y - w.y) * (v.y - w.y)) = (v.y - w.y) * (v.y - w.y) := wrap64 (by omega) (by omega)
  have w4 : IntKind.wrap .i64 ((v.z - w.z) * (v.z - w.z)) = (v.z - w.z) * (v.z - w.z) := wrap64 (by omega) (by omega)
  have w5 : IntKind.wrap .i64 ((v.y - w.y) * (v.y - w.y) + (v.z - w.z) * (v.z - w.z)) = (v.y - w.y) * (v.y - w.y) + (v.z - w.z) * (v.z - w.z) := wrap64 (by omega) (by omega)
  have w6 : IntKind.wrap .i64 (v.s - w.s) = v.s - w.s := wrap64 (by omega) (by omega)
  have es : max (v.s - w.s) (-(v.s - w.s)) = szV (v.s - w.s) := by unfold szV; omega
  have y := x_Size (v.s - w.s) (by simp only [eq_iff_iff, iff_true]; omega)
  rw [es] at y
  have w7 : IntKind.wrap .i64 ((v.y - w.y) * (v.y - w.y) + (v.z - w.z) * (v.z - w.z) + szV (v.s - w.s)) = offV v w := wrap64 (by omega) (by omega)
  refine c23.fok rfl (Cor.run (addC_good g_Size (noC_good _)) (noHx_good _) hm ?_)
  simp +contextual -implicitDefEqProofs (maxSteps := 2000000) only [bg_eq, a23, w1, w2, w3, w4, w5, w6, y, w7, ruB, rh_no, Int.reduceLT, Int.reduceLE, Int.reduceAdd, Int.reduceSub, Int.reduceMul, Int.reduceNeg, Int.reduceToNat, Int.reduceEq, Int.reduceNe, Int.reduceTDiv, Int.reduceTMod, implies_true, putL, appN, appX, appC, Eng.Fi, reduceCtorEq, exists_eq_left', exists_eq_left, if_true, if_false, List.replicate, Nat.reduceAdd, Nat.reduceSub, Nat.reduceMul, Nat.reduceLeDiff, Nat.reduceLT, Nat.reduceEqDiff]
def cf_rOff : List AV → Option AV
  | [.agg [.int .i64 v_y, .int .i64 v_z, .int .i64 v_s], .agg [.int .i64 w_y, .int .i64 w_z, .int .i64 w_s]] => if voR (⟨v_y, v_z, v_s⟩ : Vo) ∧ voR (⟨w_y, w_z, w_s⟩ : Vo) then some (I (offV (⟨v_y, v_z, v_s⟩ : Vo) (⟨w_y, w_z, w_s⟩ : Vo))) else none
  | _ => none
theorem g_rOff : Fn P 23 cf_rOff := fun args v hh => by
  unfold cf_rOff at hh; split at hh
  · split at hh
    · rename_i hc; have hk := Option.some.inj hh; subst hk; exact k_rOff ⟨_, _, _⟩ ⟨_, _, _⟩ hc
    · cases hh
  · cases hh
theorem x_rOff (v : Vo) (w : Vo) (hc : (voR v ∧ voR w) = True) : cf_rOff [.agg [I v.y, I v.z, I v.s], .agg [I w.y, I w.z, I w.s]] = some (I (offV v w)) := by
  exact if_pos (by rw [hc]; trivial)
end Wa
