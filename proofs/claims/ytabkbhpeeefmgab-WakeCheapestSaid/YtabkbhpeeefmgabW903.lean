import Derived.Test.YtabkbhpeeefmgabEngS9
import Derived.Test.YtabkbhpeeefmgabW902
open Go Go.Proofs Eng
set_option maxRecDepth 100000
set_option linter.unusedSimpArgs false
set_option linter.unusedVariables false
def a31 : AC := .seq (.ops false [] [⟨some 0, .alloc 75 4 [.agg [.int .i64 0, .int .i64 0, .int .i64 0, .int .i64 0]], [], none⟩]) (.seq (.ops false [] [⟨some 1, .p (.build [.int .i64 0, .int .i64 0] [(1, 1)]), [.c (.int .i64 10)], none⟩, ⟨some 2, .p (.build [.int .i64 0, .int .i64 0, .int .i64 0, .int .i64 0] [(0, 2), (2, 1), (3, 1)]), [.t 1, .c (.int .i64 3), .c (.int .i64 10)], none⟩, ⟨none, .store 4 true, [.t 0, .t 2], none⟩]) (.ret))
theorem c31 : FnC Try.prog 31 3 a31 [.cell 0 4 true] := ⟨Try.call31, _, _, Try.func31, rfl, by kernel_rfl, by kernel_rfl, rfl⟩
def a32 : AC := .seq (.ops false [] [⟨some 0, .alloc 78 3 [.agg [.int .i64 0, .int .i64 0, .int .i64 0]], [], none⟩]) (.seq (.ops false [] [⟨some 1, .p (.build [.int .i64 0, .int .i64 0, .int .i64 0] [(2, 1)]), [.c (.int .i64 1)], none⟩, ⟨none, .store 3 true, [.t 0, .t 1], none⟩]) (.ret))
theorem c32 : FnC Try.prog 32 2 a32 [.cell 0 3 true] := ⟨Try.call32, _, _, Try.func32, rfl, by kernel_rfl, by kernel_rfl, rfl⟩
def a38 : AC := .seq (.ops false [] [⟨some 0, .alloc 40 6 [.agg [.int .i64 0, .int .i64 0, .int .i64 0, .int .i64 0, .int .i64 0, .int .i64 0]], [], none⟩]) (.seq (.ops false [] [⟨some 1, .p (.build [.int .i64 0, .int .i64 0] [(1, 1)]), [.c (.int .i64 2)], none⟩, ⟨some 2, .p (.build [.int .i64 0, .int .i64 0] [(0, 1), (1, 1)]), [.c (.int .i64 10), .c (.int .i64 12)], none⟩, ⟨some 3, .p (.build [.int .i64 0, .int .i64 0] [(0, 1), (1, 1)]), [.c (.int .i64 8), .c (.int .i64 10)], none⟩, ⟨some 4, .p (.build [.int .i64 0, .int .i64 0, .int .i64 0, .int .i64 0, .int .i64 0, .int .i64 0] [(0, 2), (2, 2), (4, 2)]), [.t 1, .t 2, .t 3], none⟩, ⟨none, .store 6 true, [.t 0, .t 4], none⟩]) (.ret))
theorem c38 : FnC Try.prog 38 5 a38 [.cell 0 6 true] := ⟨Try.call38, _, _, Try.func38, rfl, by kernel_rfl, by kernel_rfl, rfl⟩
def a39 : AC := .seq (.ops false [] [⟨some 0, .alloc 45 6 [.agg [.int .i64 0, .int .i64 0, .int .i64 0, .int .i64 0, .int .i64 0, .int .i64 0]], [], none⟩]) (.seq (.ops false [] [⟨some 1, .p (.build [.int .i64 0, .int .i64 0] [(0, 1), (1, 1)]), [.c (.int .i64 (-1)), .c (.int .i64 1)], none⟩, ⟨some 2, .p (.build [.int .i64 0, .int .i64 0] [(0, 1), (1, 1)]), [.c (.int .i64 1), .c (.int .i64 2)], none⟩, ⟨some 3, .p (.build [.int .i64 0, .int .i64 0] [(1, 1)]), [.c (.int .i64 1)], none⟩, ⟨some 4, .p (.build [.int .i64 0, .int .i64 0, .int .i64 0, .int .i64 0, .int .i64 0, .int .i64 0] [(0, 2), (2, 2), (4, 2)]), [.t 1, .t 2, .t 3], none⟩, ⟨none, .store 6 true, [.t 0, .t 4], none⟩]) (.ret))
theorem c39 : FnC Try.prog 39 5 a39 [.cell 0 6 true] := ⟨Try.call39, _, _, Try.func39, rfl, by kernel_rfl, by kernel_rfl, rfl⟩
def a40 : AC := .seq (.ops false [] [⟨some 0, .alloc 47 7 [.agg [.int .i64 0, .int .i64 0, .int .i64 0, .int .i64 0, .int .i64 0, .int .i64 0, .int .i64 0]], [], none⟩]) (.seq (.ops false [] [⟨some 1, .p (.build [.int .i64 0, .int .i64 0] [(0, 1), (1, 1)]), [.c (.int .i64 (-100)), .c (.int .i64 100)], none⟩, ⟨some 2, .p (.build [.int .i64 0, .int .i64 0] [(0, 1), (1, 1)]), [.c (.int .i64 5), .c (.int .i64 50)], none⟩, ⟨some 3, .p (.build [.int .i64 0, .int .i64 0, .int .i64 0, .int .i64 0, .int .i64 0, .int .i64 0, .int .i64 0] [(0, 2), (2, 2), (4, 1), (6, 1)]), [.t 1, .t 2, .c (.int .i64 1), .c (.int .i64 20)], none⟩, ⟨none, .store 7 true, [.t 0, .t 3], none⟩]) (.ret))
theorem c40 : FnC Try.prog 40 4 a40 [.cell 0 7 true] := ⟨Try.call40, _, _, Try.func40, rfl, by kernel_rfl, by kernel_rfl, rfl⟩
namespace Wa
end Wa
open Go Go.Proofs Eng
set_option maxRecDepth 100000
set_option linter.unusedSimpArgs false
set_option linter.unusedVariables false
namespace Wa
theorem k_wPair : FOk P 31 [] (ePa ⟨0, 10, 3, 10⟩) := by
  refine c31.fok rfl (Cor.run (noC_good _) (noHx_good _) hm ?_)
  simp +contextual -implicitDefEqProofs (maxSteps := 2000000) only [bg_eq, a31, ruB, rh_no, Int.reduceLT, Int.reduceLE, Int.reduceAdd, Int.reduceSub, Int.reduceMul, Int.reduceNeg, Int.reduceToNat, Int.reduceEq, Int.reduceNe, Int.reduceTDiv, Int.reduceTMod, implies_true, putL, appN, appX, appC, Eng.Fi, reduceCtorEq, exists_eq_left', exists_eq_left, if_true, if_false, List.replicate, Nat.reduceAdd, Nat.reduceSub, Nat.reduceMul, Nat.reduceLeDiff, Nat.reduceLT, Nat.reduceEqDiff]
def cf_wPair : List AV → Option AV
  | [] => some (.agg [I 0, I 10, I 3, I 10])
  | _ => none
theorem g_wPair : Fn P 31 cf_wPair := fun args v h => by
  unfold cf_wPair at h; split at h
  · have h := Option.some.inj h; subst h; exact k_wPair 
  · cases h
theorem x_wPair : cf_wPair [] = some (.agg [I 0, I 10, I 3, I 10]) := rfl
theorem k_wSetup : FOk P 32 [] (eSu ⟨0, 0, 1⟩) := by
  refine c32.fok rfl (Cor.run (noC_good _) (noHx_good _) hm ?_)
  simp +contextual -implicitDefEqProofs (maxSteps := 2000000) only [bg_eq, a32, ruB, rh_no, Int.reduceLT, Int.reduceLE, Int.reduceAdd, Int.reduceSub, Int.reduceMul, Int.reduceNeg, Int.reduceToNat, Int.reduceEq, Int.reduceNe, Int.reduceTDiv, Int.reduceTMod, implies_true, putL, appN, appX, appC, Eng.Fi, reduceCtorEq, exists_eq_left', exists_eq_left, if_true, if_false, List.replicate, Nat.reduceAdd, Nat.reduceSub, Nat.reduceMul, Nat.reduceLeDiff, Nat.reduceLT, Nat.reduceEqDiff]
def cf_wSetup : List AV → Option AV
  | [] => some (.agg [I 0, I 0, I 1])
  | _ => none
theorem g_wSetup : Fn P 32 cf_wSetup := fun args v h => by
  unfold cf_wSetup at h; split at h
  · have h := Option.some.inj h; subst h; exact k_wSetup 
  · cases h
theorem x_wSetup : cf_wSetup [] = some (.agg [I 0, I 0, I 1]) := rfl
theorem k_wBox : FOk P 38 [] (eBx ⟨0, 2, 10, 12, 8, 10⟩) := by
  refine c38.fok rfl (Cor.run (noC_good _) (noHx_good _) hm ?_)
  simp +contextual -implicitDefEqProofs (maxSteps := 2000000) only [bg_eq, a38, ruB, rh_no, Int.reduceLT, Int.reduceLE, Int.reduceAdd, Int.reduceSub, Int.reduceMul, Int.reduceNeg, Int.reduceToNat, Int.reduceEq, Int.reduceNe, Int.reduceTDiv, Int.reduceTMod, implies_true, putL, appN, appX, appC, Eng.Fi, reduceCtorEq, exists_eq_left', exists_eq_left, if_true, if_false, List.replicate, Nat.reduceAdd, Nat.reduceSub, Nat.reduceMul, Nat.reduceLeDiff, Nat.reduceLT, Nat.reduceEqDiff]
def cf_wBox : List AV → Option AV
  | [] => some (.agg [I 0, I 2, I 10, I 12, I 8, I 10])
  | _ => none
theorem g_wBox : Fn P 38 cf_wBox := fun args v h => by
  unfold cf_wBox at h; split at h
  · have h := Option.some.inj h; subst h; exact k_wBox 
  · cases h
theorem x_wBox : cf_wBox [] = some (.agg [I 0, I 2, I 10, I 12, I 8, I 10]) := rfl
theorem k_wDrift : FOk P 39 [] (eBx ⟨-1, 1, 1, 2, 0, 1⟩) := by
  refine c39.fok rfl (Cor.run (noC_good _) (noHx_good _) hm ?_)
  simp +contextual -implicitDefEqProofs (maxSteps := 2000000) only [bg_eq, a39, ruB, rh_no, Int.reduceLT, Int.reduceLE, Int.reduceAdd, Int.reduceSub, Int.reduceMul, Int.reduceNeg, Int.reduceToNat, Int.reduceEq, Int.reduceNe, Int.reduceTDiv, Int.reduceTMod, implies_true, putL, appN, appX, appC, Eng.Fi, reduceCtorEq, exists_eq_left', exists_eq_left, if_true, if_false, List.replicate, Nat.reduceAdd, Nat.reduceSub, Nat.reduceMul, Nat.reduceLeDiff, Nat.reduceLT, Nat.reduceEqDiff]
def cf_wDrift : List AV → Option AV
  | [] => some (.agg [I (-1), I 1, I 1, I 2, I 0, I 1])
  | _ => none
theorem g_wDrift : Fn P 39 cf_wDrift := fun args v h => by
  unfold cf_wDrift at h; split at h
  · have h := Option.some.inj h; subst h; exact k_wDrift 
  · cases h
theorem x_wDrift : cf_wDrift [] = some (.agg [I (-1), I 1, I 1, I 2, I 0, I 1]) := rfl
theorem k_wCorridor : FOk P 40 [] (eCo ⟨-100, 100, 5, 50, 1, 0, 20⟩) := by
  refine c40.fok rfl (Cor.run (noC_good _) (noHx_good _) hm ?_)
  simp +contextual -implicitDefEqProofs (maxSteps := 2000000) only [bg_eq, a40, ruB, rh_no, Int.reduceLT, Int.reduceLE, Int.reduceAdd, Int.reduceSub, Int.reduceMul, Int.reduceNeg, Int.reduceToNat, Int.reduceEq, Int.reduceNe, Int.reduceTDiv, Int.reduceTMod, implies_true, putL, appN, appX, appC, Eng.Fi, reduceCtorEq, exists_eq_left', exists_eq_left, if_true, if_false, List.replicate, Nat.reduceAdd, Nat.reduceSub, Nat.reduceMul, Nat.reduceLeDiff, Nat.reduceLT, Nat.reduceEqDiff]
def cf_wCorridor : List AV → Option AV
  | [] => some (.agg [I (-100), I 100, I 5, I 50, I 1, I 0, I 20])
  | _ => none
theorem g_wCorridor : Fn P 40 cf_wCorridor := fun args v h => by
  unfold cf_wCorridor at h; split at h
  · have h := Option.some.inj h; subst h; exact k_wCorridor 
  · cases h
theorem x_wCorridor : cf_wCorridor [] = some (.agg [I (-100), I 100, I 5, I 50, I 1, I 0, I 20]) := rfl
end Wa
