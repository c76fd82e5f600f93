import Derived.Test.YtabkbhpeeefmgaaEngS9
import Derived.Test.YtabkbhpeeefmgaaW31
open Go Go.Proofs Eng
set_option maxRecDepth 100000
set_option linter.unusedSimpArgs false
set_option linter.unusedVariables false
def a13 : AC := .seq (.ops false [] [⟨some 0, .p (.mov), [.c (.bool false)], none⟩]) (.seq (.ops false [] [⟨some 16, .call 72, [], none⟩, ⟨some 17, .call 73, [], none⟩, ⟨some 18, .p (.build [.int .i64 0, .int .i64 0] [(0, 1), (1, 1)]), [.c (.int .i64 3), .c (.int .i64 14)], none⟩, ⟨some 19, .call 60, [.t 16, .t 17, .t 18], none⟩, ⟨some 15, .p (.mov), [.t 19], none⟩, ⟨some 20, .p (.ext 0), [.t 15], none⟩, ⟨some 21, .p (.ext 1), [.t 15], none⟩, ⟨some 1, .p (.mov), [.t 20], none⟩, ⟨some 2, .p (.mov), [.t 21], none⟩]) (.seq (.ops false [] [⟨some 23, .call 74, [], none⟩, ⟨some 24, .call 55, [.t 23], none⟩, ⟨some 22, .p (.mov), [.t 24], none⟩, ⟨some 25, .p (.ext 0), [.t 22], none⟩, ⟨some 26, .p (.ext 1), [.t 22], none⟩, ⟨some 27, .p (.ext 2), [.t 22], none⟩, ⟨some 3, .alloc 108 4 [.agg [.int .i64 0, .int .i64 0, .int .i64 0, .int .i64 0]], [], none⟩, ⟨none, .store 4 true, [.t 3, .t 25], none⟩, ⟨some 4, .p (.mov), [.t 26], none⟩, ⟨some 5, .p (.mov), [.t 27], none⟩]) (.seq (.ops false [] [⟨some 29, .fbs 1, [.c (.int .i64 1), .c (.int .i64 2)], none⟩, ⟨some 30, .fbs 1, [.c (.int .i64 2), .c (.int .i64 4)], none⟩, ⟨some 31, .fbs 1, [.t 29, .t 30], none⟩, ⟨some 32, .call 35, [.t 31], none⟩, ⟨some 28, .p (.mov), [.t 32], none⟩, ⟨some 33, .p (.ext 0), [.t 28], none⟩, ⟨some 34, .p (.ext 1), [.t 28], none⟩, ⟨some 35, .p (.ext 2), [.t 28], none⟩, ⟨some 6, .p (.mov), [.t 33], none⟩, ⟨some 7, .p (.mov), [.t 34], none⟩, ⟨some 8, .p (.mov), [.t 35], none⟩]) (.seq (.ops false [] [⟨some 37, .call 75, [], none⟩, ⟨some 38, .call 15, [.t 37, .c (.int .i64 5)], none⟩, ⟨some 36, .p (.mov), [.t 38], none⟩, ⟨some 39, .p (.ext 0), [.t 36], none⟩, ⟨some 40, .p (.ext 1), [.t 36], none⟩, ⟨some 9, .p (.mov), [.t 39], none⟩, ⟨some 10, .p (.mov), [.t 40], none⟩]) (.seq (.ops false [] [⟨some 42, .call 76, [], none⟩, ⟨some 43, .call 77, [], none⟩, ⟨some 44, .call 25, [.t 42, .t 43, .c (.int .i64 3)], none⟩, ⟨some 41, .p (.mov), [.t 44], none⟩, ⟨some 45, .p (.ext 0), [.t 41], none⟩, ⟨some 46, .p (.ext 1), [.t 41], none⟩, ⟨some 11, .alloc 50 6 [.agg [.int .i64 0, .int .i64 0, .int .i64 0, .int .i64 0, .int .i64 0, .int .i64 0]], [], none⟩, ⟨none, .store 6 true, [.t 11, .t 45], none⟩, ⟨some 12, .p (.mov), [.t 46], none⟩]) (.seq (.ops false [] [⟨some 48, .call 76, [], none⟩, ⟨some 49, .call 77, [], none⟩, ⟨some 50, .call 78, [], none⟩, ⟨some 51, .call 63, [.t 48, .t 49, .t 50], none⟩, ⟨some 47, .p (.mov), [.t 51], none⟩, ⟨some 52, .p (.ext 0), [.t 47], none⟩, ⟨some 53, .p (.ext 1), [.t 47], none⟩, ⟨some 13, .p (.mov), [.t 52], none⟩, ⟨some 14, .p (.mov), [.t 53], none⟩]) (.seq (.ops true [] [⟨some 54, .p (.mov), [.t 2], none⟩, ⟨some 55, .p (.binI .eql), [.t 54, .c (.int .i64 0)], none⟩, ⟨some 56, .p (.mov), [.t 55], none⟩, ⟨some 57, .p (.mov), [.t 1], some (56, true)⟩, ⟨some 58, .p (.binI .eql), [.t 57, .c (.int .i64 20)], some (56, true)⟩, ⟨some 59, .p (.pick), [.t 56, .t 58, .c (.bool false)], none⟩, ⟨some 60, .p (.mov), [.t 59], none⟩, ⟨some 61, .p (.mov), [.t 5], some (60, true)⟩, ⟨some 62, .p (.binI .eql), [.t 61, .c (.int .i64 0)], some (60, true)⟩, ⟨some 63, .p (.pick), [.t 60, .t 62, .c (.bool false)], none⟩, ⟨some 64, .p (.mov), [.t 63], none⟩, ⟨some 65, .load 4 true, [.t 3], some (64, true)⟩, ⟨some 66, .call 72, [], some (64, true)⟩, ⟨some 67, .p (.eqa false [.i, .i, .i, .i]), [.t 65, .t 66], some (64, true)⟩, ⟨some 68, .p (.pick), [.t 64, .t 67, .c (.bool false)], none⟩, ⟨some 69, .p (.mov), [.t 68], none⟩, ⟨some 70, .p (.mov), [.t 4], some (69, true)⟩, ⟨some 71, .p (.binI .eql), [.t 70, .c (.int .i64 0)], some (69, true)⟩, ⟨some 72, .p (.pick), [.t 69, .t 71, .c (.bool false)], none⟩, ⟨some 73, .p (.mov), [.t 72], none⟩, ⟨some 74, .p (.mov), [.t 8], some (73, true)⟩, ⟨some 75, .p (.binI .eql), [.t 74, .c (.int .i64 0)], some (73, true)⟩, ⟨some 76, .p (.pick), [.t 73, .t 75, .c (.bool false)], none⟩, ⟨some 77, .p (.mov), [.t 76], none⟩, ⟨some 78, .p (.mov), [.t 7], some (77, true)⟩, ⟨some 79, .p (.binI .eql), [.t 78, .c (.int .i64 4)], some (77, true)⟩, ⟨some 80, .p (.pick), [.t 77, .t 79, .c (.bool false)], none⟩, ⟨some 81, .p (.mov), [.t 80], none⟩, ⟨some 82, .p (.mov), [.t 6], some (81, true)⟩, ⟨some 83, .fbs 1, [.c (.int .i64 1), .c (.int .i64 0)], some (81, true)⟩, ⟨some 84, .call 39, [.t 82, .t 83], some (81, true)⟩, ⟨some 85, .p (.pick), [.t 81, .t 84, .c (.bool false)], none⟩, ⟨some 86, .p (.mov), [.t 85], none⟩, ⟨some 87, .p (.mov), [.t 10], some (86, true)⟩, ⟨some 88, .p (.binI .eql), [.t 87, .c (.int .i64 0)], some (86, true)⟩, ⟨some 89, .p (.pick), [.t 86, .t 88, .c (.bool false)], none⟩, ⟨some 90, .p (.mov), [.t 89], none⟩, ⟨some 91, .p (.mov), [.t 9], some (90, true)⟩, ⟨some 92, .p (.build [.int .i64 0, .int .i64 0] [(0, 1), (1, 1)]), [.c (.int .i64 0), .c (.int .i64 0)], some (90, true)⟩, ⟨some 93, .p (.build [.int .i64 0, .int .i64 0] [(0, 1), (1, 1)]), [.c (.int .i64 1), .c (.int .i64 0)], some (90, true)⟩, ⟨some 94, .fbs 2, [.t 92, .t 93], some (90, true)⟩, ⟨some 95, .p (.build [.int .i64 0, .int .i64 0] [(0, 1), (1, 1)]), [.c (.int .i64 1), .c (.int .i64 1)], some (90, true)⟩, ⟨some 96, .p (.build [.int .i64 0, .int .i64 0] [(0, 1), (1, 1)]), [.c (.int .i64 2), .c (.int .i64 0)], some (90, true)⟩, ⟨some 97, .fbs 2, [.t 95, .t 96], some (90, true)⟩, ⟨some 98, .fbs 1, [.t 94, .t 97], some (90, true)⟩, ⟨some 99, .call 18, [.t 91, .t 98], some (90, true)⟩, ⟨some 100, .p (.pick), [.t 90, .t 99, .c (.bool false)], none⟩, ⟨some 101, .p (.mov), [.t 100], none⟩, ⟨some 102, .p (.mov), [.t 12], some (101, true)⟩, ⟨some 103, .p (.binI .eql), [.t 102, .c (.int .i64 0)], some (101, true)⟩, ⟨some 104, .p (.pick), [.t 101, .t 103, .c (.bool false)], none⟩, ⟨some 105, .p (.mov), [.t 104], none⟩, ⟨some 106, .load 6 true, [.t 11], some (105, true)⟩, ⟨some 107, .p (.build [.int .i64 0, .int .i64 0] [(0, 1), (1, 1)]), [.c (.int .i64 (-3)), .c (.int .i64 5)], some (105, true)⟩, ⟨some 108, .p (.build [.int .i64 0, .int .i64 0] [(0, 1), (1, 1)]), [.c (.int .i64 4), .c (.int .i64 9)], some (105, true)⟩, ⟨some 109, .p (.build [.int .i64 0, .int .i64 0] [(0, 1), (1, 1)]), [.c (.int .i64 5), .c (.int .i64 10)], some (105, true)⟩, ⟨some 110, .p (.build [.int .i64 0, .int .i64 0, .int .i64 0, .int .i64 0, .int .i64 0, .int .i64 0] [(0, 2), (2, 2), (4, 2)]), [.t 107, .t 108, .t 109], some (105, true)⟩, ⟨some 111, .p (.eqa false [.i, .i, .i, .i, .i, .i]), [.t 106, .t 110], some (105, true)⟩, ⟨some 112, .p (.pick), [.t 105, .t 111, .c (.bool false)], none⟩, ⟨some 113, .p (.mov), [.t 112], none⟩, ⟨some 114, .p (.mov), [.t 14], some (113, true)⟩, ⟨some 115, .p (.binI .eql), [.t 114, .c (.int .i64 0)], some (113, true)⟩, ⟨some 116, .p (.pick), [.t 113, .t 115, .c (.bool false)], none⟩, ⟨some 117, .p (.mov), [.t 116], none⟩, ⟨some 118, .p (.mov), [.t 13], some (117, true)⟩, ⟨some 119, .p (.binI .eql), [.t 118, .c (.int .i64 8)], some (117, true)⟩, ⟨some 120, .p (.pick), [.t 117, .t 119, .c (.bool false)], none⟩, ⟨some 0, .p (.mov), [.t 120], none⟩]) (.ret))))))))
theorem c13 : FnC Try.prog 13 121 a13 [.tmp 0] := ⟨Try.call13, _, _, Try.func13, rfl, by kernel_rfl, by kernel_rfl, rfl⟩
namespace Wa
open Classical in
noncomputable def cf_TracksC : List AV → Option AV := fun a => if a = [scC, I 5] then some (.tup [tkC, I 0]) else none
theorem g_TracksC : Fn P 15 cf_TracksC := fun args v h => by
  unfold cf_TracksC at h
  split at h
  · rename_i e; subst e; cases h; exact k_TracksC
  · cases h
open Classical in
noncomputable def cf_sameC : List AV → Option AV := fun a => if a = [tkC, tkC] then some (.bool true) else none
theorem g_sameC : Fn P 18 cf_sameC := fun args v h => by
  unfold cf_sameC at h
  split at h
  · rename_i e; subst e; cases h; exact k_sameC
  · cases h
def cf_wSearch : List AV → Option AV
  | [] => some (srC)
  | _ => none
theorem g_wSearch : Fn P 74 cf_wSearch := fun args v h => by
  unfold cf_wSearch at h; split at h
  · have h := Option.some.inj h; subst h; exact k_wSearch 
  · cases h
theorem x_wSearch : cf_wSearch [] = some (srC) := rfl
def cf_wScans : List AV → Option AV
  | [] => some (scC)
  | _ => none
theorem g_wScans : Fn P 75 cf_wScans := fun args v h => by
  unfold cf_wScans at h; split at h
  · have h := Option.some.inj h; subst h; exact k_wScans 
  · cases h
theorem x_wScans : cf_wScans [] = some (scC) := rfl
set_option maxHeartbeats 1000000 in
theorem k_awake : FOk P 13 [] (.bool true) := by
  have y1 : cf_RadialAt [.agg [I 0, I 10, I 3, I 10], .agg [I 0, I 0, I 1], .agg [I 3, I 14]] = some (.tup [I 20, I 0]) := (x_RadialAt ⟨0, 10, 3, 10⟩ ⟨0, 0, 1⟩ ⟨3, 14⟩).trans (by rw [v_ra6])
  have y2 : cf_EarliestFree [.agg [I 0, I 2, I 10, I 12, I 8, I 10], .agg [I (-1), I 1, I 1, I 2, I 0, I 1], .agg [I (-100), I 100, I 5, I 50, I 1, I 0, I 20]] = some (.tup [I 8, I 0]) := (x_EarliestFree ⟨0, 2, 10, 12, 8, 10⟩ ⟨-1, 1, 1, 2, 0, 1⟩ ⟨-100, 100, 5, 50, 1, 0, 20⟩).trans (by rw [v_er6])
  have y3 : cf_BestIn [srC] = some (.tup [.agg [I 0, I 10, I 3, I 10], I 0, I 0]) := (x_BestIn ⟨0, 1, 10, 10, 3, [5, 10], ⟨0, 0, 1⟩, [⟨3, 14, 20⟩]⟩).trans (by rw [v_bi])
  have y4 : cf_CheapestOf [.vs [.vs [I 1, I 2], .vs [I 2, I 4]]] = some (.tup [.vs [I 1, I 0], I 4, I 0]) := (x_CheapestOf [[1, 2], [2, 4]] (by simp)).trans (by rw [v_co])
  have y5 : cf_BoxAfter [.agg [I 0, I 2, I 10, I 12, I 8, I 10], .agg [I (-1), I 1, I 1, I 2, I 0, I 1], I 3] = some (.tup [.agg [I (-3), I 5, I 4, I 9, I 5, I 10], I 0]) := (x_BoxAfter ⟨0, 2, 10, 12, 8, 10⟩ ⟨-1, 1, 1, 2, 0, 1⟩ 3).trans (by rw [v_ba])
  have y6 : cf_Ints [.vs [I 1, I 0], .vs [I 1, I 0]] = some (.bool true) := (x_Ints [1, 0] [1, 0] (by simp)).trans (by simp)
  have y7 : cf_TracksC [scC, I 5] = some (.tup [tkC, I 0]) := if_pos rfl
  have y8 : cf_sameC [tkC, tkC] = some (.bool true) := if_pos rfl
  refine c13.fok (y := YH P noHx) rfl ?_
  rw [bg_eq, a13]
  refine Cor.seq (Cor.run (addC_good g_RadialAt (addC_good g_wSetup (addC_good g_wPair (noC_good _)))) (noHx_good _) hm ?_)
  simp +contextual -implicitDefEqProofs (maxSteps := 2000000) only [eThen_normal, ruH, ruB, Int.reduceLT, Int.reduceLE, Int.reduceAdd, Int.reduceSub, Int.reduceMul, Int.reduceNeg, Int.reduceToNat, Int.reduceEq, Int.reduceNe, Int.reduceTDiv, Int.reduceTMod, implies_true, putL, appN, appX, appC, Eng.Fi, reduceCtorEq, exists_eq_left', exists_eq_left, if_true, if_false, List.replicate, Nat.reduceAdd, Nat.reduceSub, Nat.reduceMul, Nat.reduceLeDiff, Nat.reduceLT, Nat.reduceEqDiff]
  refine Cor.seq (Cor.run (addC_good g_RadialAt (addC_good g_wSetup (addC_good g_wPair (noC_good _)))) (noHx_good _) hm ?_)
  simp +contextual -implicitDefEqProofs (maxSteps := 2000000) only [x_wPair, x_wSetup, y1, eThen_normal, ruH, ruB, Int.reduceLT, Int.reduceLE, Int.reduceAdd, Int.reduceSub, Int.reduceMul, Int.reduceNeg, Int.reduceToNat, Int.reduceEq, Int.reduceNe, Int.reduceTDiv, Int.reduceTMod, implies_true, putL, appN, appX, appC, Eng.Fi, reduceCtorEq, exists_eq_left', exists_eq_left, if_true, if_false, List.replicate, Nat.reduceAdd, Nat.reduceSub, Nat.reduceMul, Nat.reduceLeDiff, Nat.reduceLT, Nat.reduceEqDiff]
  refine Cor.seq (Cor.run (addC_good g_BestIn (addC_good g_wSearch (noC_good _))) (noHx_good _) hm ?_)
  simp +contextual -implicitDefEqProofs (maxSteps := 2000000) only [x_wSearch, y3, eThen_normal, ruH, ruB, Int.reduceLT, Int.reduceLE, Int.reduceAdd, Int.reduceSub, Int.reduceMul, Int.reduceNeg, Int.reduceToNat, Int.reduceEq, Int.reduceNe, Int.reduceTDiv, Int.reduceTMod, implies_true, putL, appN, appX, appC, Eng.Fi, reduceCtorEq, exists_eq_left', exists_eq_left, if_true, if_false, List.replicate, Nat.reduceAdd, Nat.reduceSub, Nat.reduceMul, Nat.reduceLeDiff, Nat.reduceLT, Nat.reduceEqDiff]
  refine Cor.seq (Cor.run (addC_good g_CheapestOf (noC_good _)) (noHx_good _) hm ?_)
  simp +contextual -implicitDefEqProofs (maxSteps := 2000000) only [y4, eThen_normal, ruH, ruB, Int.reduceLT, Int.reduceLE, Int.reduceAdd, Int.reduceSub, Int.reduceMul, Int.reduceNeg, Int.reduceToNat, Int.reduceEq, Int.reduceNe, Int.reduceTDiv, Int.reduceTMod, implies_true, putL, appN, appX, appC, Eng.Fi, reduceCtorEq, exists_eq_left', exists_eq_left, if_true, if_false, List.replicate, Nat.reduceAdd, Nat.reduceSub, Nat.reduceMul, Nat.reduceLeDiff, Nat.reduceLT, Nat.reduceEqDiff]
  refine Cor.seq (Cor.run (addC_good g_TracksC (addC_good g_wScans (noC_good _))) (noHx_good _) hm ?_)
  simp +contextual -implicitDefEqProofs (maxSteps := 2000000) only [x_wScans, y7, eThen_normal, ruH, ruB, Int.reduceLT, Int.reduceLE, Int.reduceAdd, Int.reduceSub, Int.reduceMul, Int.reduceNeg, Int.reduceToNat, Int.reduceEq, Int.reduceNe, Int.reduceTDiv, Int.reduceTMod, implies_true, putL, appN, appX, appC, Eng.Fi, reduceCtorEq, exists_eq_left', exists_eq_left, if_true, if_false, List.replicate, Nat.reduceAdd, Nat.reduceSub, Nat.reduceMul, Nat.reduceLeDiff, Nat.reduceLT, Nat.reduceEqDiff]
  refine Cor.seq (Cor.run (addC_good g_BoxAfter (addC_good g_wDrift (addC_good g_wBox (noC_good _)))) (noHx_good _) hm ?_)
  simp +contextual -implicitDefEqProofs (maxSteps := 2000000) only [x_wBox, x_wDrift, y5, eThen_normal, ruH, ruB, Int.reduceLT, Int.reduceLE, Int.reduceAdd, Int.reduceSub, Int.reduceMul, Int.reduceNeg, Int.reduceToNat, Int.reduceEq, Int.reduceNe, Int.reduceTDiv, Int.reduceTMod, implies_true, putL, appN, appX, appC, Eng.Fi, reduceCtorEq, exists_eq_left', exists_eq_left, if_true, if_false, List.replicate, Nat.reduceAdd, Nat.reduceSub, Nat.reduceMul, Nat.reduceLeDiff, Nat.reduceLT, Nat.reduceEqDiff]
  refine Cor.seq (Cor.run (addC_good g_EarliestFree (addC_good g_wCorridor (addC_good g_wDrift (addC_good g_wBox (noC_good _))))) (noHx_good _) hm ?_)
  simp +contextual -implicitDefEqProofs (maxSteps := 2000000) only [x_wBox, x_wDrift, x_wCorridor, y2, eThen_normal, ruH, ruB, Int.reduceLT, Int.reduceLE, Int.reduceAdd, Int.reduceSub, Int.reduceMul, Int.reduceNeg, Int.reduceToNat, Int.reduceEq, Int.reduceNe, Int.reduceTDiv, Int.reduceTMod, implies_true, putL, appN, appX, appC, Eng.Fi, reduceCtorEq, exists_eq_left', exists_eq_left, if_true, if_false, List.replicate, Nat.reduceAdd, Nat.reduceSub, Nat.reduceMul, Nat.reduceLeDiff, Nat.reduceLT, Nat.reduceEqDiff]
  refine Cor.run (addC_good g_sameC (addC_good g_Ints (addC_good g_wPair (noC_good _)))) (noHx_good _) hm ?_
  simp +contextual -implicitDefEqProofs (maxSteps := 2000000) only [x_wPair, y6, y8, ruH, ruB, Int.reduceLT, Int.reduceLE, Int.reduceAdd, Int.reduceSub, Int.reduceMul, Int.reduceNeg, Int.reduceToNat, Int.reduceEq, Int.reduceNe, Int.reduceTDiv, Int.reduceTMod, implies_true, putL, appN, appX, appC, Eng.Fi, reduceCtorEq, exists_eq_left', exists_eq_left, if_true, if_false, List.replicate, Nat.reduceAdd, Nat.reduceSub, Nat.reduceMul, Nat.reduceLeDiff, Nat.reduceLT, Nat.reduceEqDiff]
def cf_awake : List AV → Option AV
  | [] => some (.bool true)
  | _ => none
theorem g_awake : Fn P 13 cf_awake := fun args v h => by
  unfold cf_awake at h; split at h
  · have h := Option.some.inj h; subst h; exact k_awake 
  · cases h
theorem x_awake : cf_awake [] = some (.bool true) := rfl
end Wa
