import Derived.Test.YtabkbhpeeefmgaaEngS9
import Derived.Test.YtabkbhpeeefmgaaW913
open Go Go.Proofs Eng
set_option maxRecDepth 100000
set_option linter.unusedSimpArgs false
set_option linter.unusedVariables false
def a47 : AC := .seq (.ops false [] [⟨some 1, .box 90 3 1 true, [.t 0], none⟩, ⟨some 2, .p (.mov), [.c (.int .i64 0)], none⟩]) (.seq (.seq (.ops false [] [⟨some 4, .p (.faddr 0), [.t 1], none⟩, ⟨some 5, .load 2 true, [.t 4], none⟩, ⟨some 6, .call 48, [.t 5], none⟩, ⟨some 3, .p (.mov), [.t 6], none⟩]) (.seq (.ops false [] [⟨some 7, .p (.mov), [.t 3], none⟩, ⟨some 8, .p (.binI .neq), [.t 7, .c (.int .i64 0)], none⟩]) (.cond (.t 8) (.seq (.ops false [] [⟨some 9, .p (.mov), [.t 3], none⟩, ⟨some 2, .p (.mov), [.t 9], none⟩]) (.ret)) (.skip)))) (.seq (.seq (.ops false [] [⟨some 10, .p (.faddr 2), [.t 1], none⟩, ⟨some 11, .load 1 false, [.t 10], none⟩, ⟨some 12, .call 20, [.t 11, .c (.int .i64 1), .c (.int .i64 10000)], none⟩, ⟨some 13, .p (.notB), [.t 12], none⟩]) (.cond (.t 13) (.seq (.ops false [] [⟨some 2, .p (.mov), [.c (.int .i64 2)], none⟩]) (.ret)) (.skip))) (.seq (.ops false [] [⟨some 2, .p (.mov), [.c (.int .i64 0)], none⟩]) (.ret))))
theorem c47 : FnC Try.prog 47 14 a47 [.tmp 2] := ⟨Try.call47, _, _, Try.func47, rfl, by kernel_rfl, by kernel_rfl, rfl⟩
def a48 : AC := .seq (.ops false [] [⟨some 1, .box 44 2 1 true, [.t 0], none⟩, ⟨some 2, .p (.mov), [.c (.int .i64 0)], none⟩]) (.seq (.seq (.ops false [] [⟨some 3, .p (.faddr 0), [.t 1], none⟩, ⟨some 4, .load 1 false, [.t 3], none⟩, ⟨some 5, .call 20, [.t 4, .c (.int .i64 (-1000)), .c (.int .i64 1000)], none⟩, ⟨some 6, .p (.notB), [.t 5], none⟩, ⟨some 7, .p (.mov), [.t 6], none⟩, ⟨some 8, .p (.faddr 1), [.t 1], some (7, false)⟩, ⟨some 9, .load 1 false, [.t 8], some (7, false)⟩, ⟨some 10, .call 20, [.t 9, .c (.int .i64 0), .c (.int .i64 1000)], some (7, false)⟩, ⟨some 11, .p (.notB), [.t 10], some (7, false)⟩, ⟨some 12, .p (.pick), [.t 7, .c (.bool true), .t 11], none⟩]) (.cond (.t 12) (.seq (.ops false [] [⟨some 2, .p (.mov), [.c (.int .i64 2)], none⟩]) (.ret)) (.skip))) (.seq (.ops false [] [⟨some 2, .p (.mov), [.c (.int .i64 0)], none⟩]) (.ret)))
theorem c48 : FnC Try.prog 48 13 a48 [.tmp 2] := ⟨Try.call48, _, _, Try.func48, rfl, by kernel_rfl, by kernel_rfl, rfl⟩
namespace Wa
end Wa
open Go Go.Proofs Eng
set_option maxRecDepth 100000
set_option linter.unusedSimpArgs false
set_option linter.unusedVariables false
namespace Wa
end Wa
open Go Go.Proofs Eng
set_option maxRecDepth 100000
set_option linter.unusedSimpArgs false
set_option linter.unusedVariables false
namespace Wa
end Wa
open Go Go.Proofs Eng
set_option maxRecDepth 100000
set_option linter.unusedSimpArgs false
set_option linter.unusedVariables false
namespace Wa
theorem k_rPointErr (p : Pt) : FOk P 48 [ePt p] (I (ptE p)) := by
  unfold ptE
  by_cases h1 : siR p.y
  · have h1' := eq_true h1
    by_cases h2 : heR p.z
    · have h2' := eq_true h2
      rw [unl_t 2 (show ptR p from ⟨h1, h2⟩)]
      unfold siR at h1'
      unfold heR at h2'
      refine c48.fok rfl (Cor.run (addC_good g_Within (noC_good _)) (noHx_good _) hm ?_)
      simp +contextual -implicitDefEqProofs (maxSteps := 2000000) only [bg_eq, a48, x_Within, h1', h2', not_true_eq_false, not_false_eq_true, ruB, rh_no, Int.reduceLT, Int.reduceLE, Int.reduceAdd, Int.reduceSub, Int.reduceMul, Int.reduceNeg, Int.reduceToNat, Int.reduceEq, Int.reduceNe, Int.reduceTDiv, Int.reduceTMod, implies_true, putL, appN, appX, appC, Eng.Fi, reduceCtorEq, exists_eq_left', exists_eq_left, if_true, if_false, List.replicate, Nat.reduceAdd, Nat.reduceSub, Nat.reduceMul, Nat.reduceLeDiff, Nat.reduceLT, Nat.reduceEqDiff]
    · have h2' := eq_false h2
      rw [unl_f 2 (fun h : ptR p => h2 h.2)]
      unfold siR at h1'
      unfold heR at h2'
      refine c48.fok rfl (Cor.run (addC_good g_Within (noC_good _)) (noHx_good _) hm ?_)
      simp +contextual -implicitDefEqProofs (maxSteps := 2000000) only [bg_eq, a48, x_Within, h1', h2', not_true_eq_false, not_false_eq_true, ruB, rh_no, Int.reduceLT, Int.reduceLE, Int.reduceAdd, Int.reduceSub, Int.reduceMul, Int.reduceNeg, Int.reduceToNat, Int.reduceEq, Int.reduceNe, Int.reduceTDiv, Int.reduceTMod, implies_true, putL, appN, appX, appC, Eng.Fi, reduceCtorEq, exists_eq_left', exists_eq_left, if_true, if_false, List.replicate, Nat.reduceAdd, Nat.reduceSub, Nat.reduceMul, Nat.reduceLeDiff, Nat.reduceLT, Nat.reduceEqDiff]
  · have h1' := eq_false h1
    rw [unl_f 2 (fun h : ptR p => h1 h.1)]
    unfold siR at h1'
    refine c48.fok rfl (Cor.run (addC_good g_Within (noC_good _)) (noHx_good _) hm ?_)
    simp +contextual -implicitDefEqProofs (maxSteps := 2000000) only [bg_eq, a48, x_Within, h1', not_true_eq_false, not_false_eq_true, ruB, rh_no, Int.reduceLT, Int.reduceLE, Int.reduceAdd, Int.reduceSub, Int.reduceMul, Int.reduceNeg, Int.reduceToNat, Int.reduceEq, Int.reduceNe, Int.reduceTDiv, Int.reduceTMod, implies_true, putL, appN, appX, appC, Eng.Fi, reduceCtorEq, exists_eq_left', exists_eq_left, if_true, if_false, List.replicate, Nat.reduceAdd, Nat.reduceSub, Nat.reduceMul, Nat.reduceLeDiff, Nat.reduceLT, Nat.reduceEqDiff]
def cf_rPointErr : List AV → Option AV
  | [.agg [.int .i64 p_y, .int .i64 p_z]] => some (I (ptE (⟨p_y, p_z⟩ : Pt)))
  | _ => none
theorem g_rPointErr : Fn P 48 cf_rPointErr := fun args v hh => by
  unfold cf_rPointErr at hh; split at hh
  · have hk := Option.some.inj hh; subst hk; exact k_rPointErr ⟨_, _⟩
  · cases hh
theorem x_rPointErr (p : Pt) : cf_rPointErr [.agg [I p.y, I p.z]] = some (I (ptE p)) := by
  rfl
theorem k_rSetupErr (s : Su) : FOk P 47 [eSu s] (I (suE s)) := by
  have y1 := x_rPointErr ⟨s.y, s.z⟩
  unfold suE
  by_cases h1 : ptE ⟨s.y, s.z⟩ = 0
  · rw [h1, fE0, firstE_one]
    rw [h1] at y1
    by_cases h2 : 1 ≤ s.c ∧ s.c ≤ 10000
    · have h2' := eq_true h2
      rw [unl_t 2 h2]
      refine c47.fok rfl (Cor.run (addC_good g_rPointErr (addC_good g_Within (noC_good _))) (noHx_good _) hm ?_)
      simp +contextual -implicitDefEqProofs (maxSteps := 2000000) only [bg_eq, a47, x_Within, y1, h2', not_true_eq_false, not_false_eq_true, ruB, rh_no, Int.reduceLT, Int.reduceLE, Int.reduceAdd, Int.reduceSub, Int.reduceMul, Int.reduceNeg, Int.reduceToNat, Int.reduceEq, Int.reduceNe, Int.reduceTDiv, Int.reduceTMod, implies_true, putL, appN, appX, appC, Eng.Fi, reduceCtorEq, exists_eq_left', exists_eq_left, if_true, if_false, List.replicate, Nat.reduceAdd, Nat.reduceSub, Nat.reduceMul, Nat.reduceLeDiff, Nat.reduceLT, Nat.reduceEqDiff]
    · have h2' := eq_false h2
      rw [unl_f 2 h2]
      refine c47.fok rfl (Cor.run (addC_good g_rPointErr (addC_good g_Within (noC_good _))) (noHx_good _) hm ?_)
      simp +contextual -implicitDefEqProofs (maxSteps := 2000000) only [bg_eq, a47, x_Within, y1, h2', not_true_eq_false, not_false_eq_true, ruB, rh_no, Int.reduceLT, Int.reduceLE, Int.reduceAdd, Int.reduceSub, Int.reduceMul, Int.reduceNeg, Int.reduceToNat, Int.reduceEq, Int.reduceNe, Int.reduceTDiv, Int.reduceTMod, implies_true, putL, appN, appX, appC, Eng.Fi, reduceCtorEq, exists_eq_left', exists_eq_left, if_true, if_false, List.replicate, Nat.reduceAdd, Nat.reduceSub, Nat.reduceMul, Nat.reduceLeDiff, Nat.reduceLT, Nat.reduceEqDiff]
  · have h1' := eq_false h1
    rw [fE1 h1]
    refine c47.fok rfl (Cor.run (addC_good g_rPointErr (addC_good g_Within (noC_good _))) (noHx_good _) hm ?_)
    simp +contextual -implicitDefEqProofs (maxSteps := 2000000) only [bg_eq, a47, x_Within, y1, h1', not_true_eq_false, not_false_eq_true, ruB, rh_no, Int.reduceLT, Int.reduceLE, Int.reduceAdd, Int.reduceSub, Int.reduceMul, Int.reduceNeg, Int.reduceToNat, Int.reduceEq, Int.reduceNe, Int.reduceTDiv, Int.reduceTMod, implies_true, putL, appN, appX, appC, Eng.Fi, reduceCtorEq, exists_eq_left', exists_eq_left, if_true, if_false, List.replicate, Nat.reduceAdd, Nat.reduceSub, Nat.reduceMul, Nat.reduceLeDiff, Nat.reduceLT, Nat.reduceEqDiff]
def cf_rSetupErr : List AV → Option AV
  | [.agg [.int .i64 s_y, .int .i64 s_z, .int .i64 s_c]] => some (I (suE (⟨s_y, s_z, s_c⟩ : Su)))
  | _ => none
theorem g_rSetupErr : Fn P 47 cf_rSetupErr := fun args v hh => by
  unfold cf_rSetupErr at hh; split at hh
  · have hk := Option.some.inj hh; subst hk; exact k_rSetupErr ⟨_, _, _⟩
  · cases hh
theorem x_rSetupErr (s : Su) : cf_rSetupErr [.agg [I s.y, I s.z, I s.c]] = some (I (suE s)) := by
  rfl
end Wa
