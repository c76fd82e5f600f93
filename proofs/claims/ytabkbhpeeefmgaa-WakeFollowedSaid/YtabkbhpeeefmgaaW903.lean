import Derived.Test.YtabkbhpeeefmgaaEngS9
import Derived.Test.YtabkbhpeeefmgaaW902
open Go Go.Proofs Eng
set_option maxRecDepth 100000
set_option linter.unusedSimpArgs false
set_option linter.unusedVariables false
def a22 : AC := .seq (.ops false [] [⟨some 2, .p (.mov), [.c (.nilslice)], none⟩]) (.seq (.ops false [] [⟨some 3, .bsl 46 3, [], none⟩, ⟨some 4, .p (.mov), [.t 0], none⟩, ⟨some 5, .app 46 3 24, [.t 3, .t 4], none⟩, ⟨some 2, .p (.mov), [.t 5], none⟩]) (.ret))
theorem c22 : FnC Try.prog 22 6 a22 [.tmp 2] := ⟨Try.call22, _, _, Try.func22, rfl, by kernel_rfl, by kernel_rfl, rfl⟩
def a72 : AC := .seq (.ops false [] [⟨some 0, .alloc 108 4 [.agg [.int .i64 0, .int .i64 0, .int .i64 0, .int .i64 0]], [], none⟩]) (.seq (.ops false [] [⟨some 1, .p (.build [.int .i64 0, .int .i64 0] [(1, 1)]), [.c (.int .i64 10)], none⟩, ⟨some 2, .p (.build [.int .i64 0, .int .i64 0, .int .i64 0, .int .i64 0] [(0, 2), (2, 1), (3, 1)]), [.t 1, .c (.int .i64 3), .c (.int .i64 10)], none⟩, ⟨none, .store 4 true, [.t 0, .t 2], none⟩]) (.ret))
theorem c72 : FnC Try.prog 72 3 a72 [.cell 0 4 true] := ⟨Try.call72, _, _, Try.func72, rfl, by kernel_rfl, by kernel_rfl, rfl⟩
def a73 : AC := .seq (.ops false [] [⟨some 0, .alloc 90 3 [.agg [.int .i64 0, .int .i64 0, .int .i64 0]], [], none⟩]) (.seq (.ops false [] [⟨some 1, .p (.build [.int .i64 0, .int .i64 0, .int .i64 0] [(2, 1)]), [.c (.int .i64 1)], none⟩, ⟨none, .store 3 true, [.t 0, .t 1], none⟩]) (.ret))
theorem c73 : FnC Try.prog 73 2 a73 [.cell 0 3 true] := ⟨Try.call73, _, _, Try.func73, rfl, by kernel_rfl, by kernel_rfl, rfl⟩
def a76 : AC := .seq (.ops false [] [⟨some 0, .alloc 50 6 [.agg [.int .i64 0, .int .i64 0, .int .i64 0, .int .i64 0, .int .i64 0, .int .i64 0]], [], none⟩]) (.seq (.ops false [] [⟨some 1, .p (.build [.int .i64 0, .int .i64 0] [(1, 1)]), [.c (.int .i64 2)], none⟩, ⟨some 2, .p (.build [.int .i64 0, .int .i64 0] [(0, 1), (1, 1)]), [.c (.int .i64 10), .c (.int .i64 12)], none⟩, ⟨some 3, .p (.build [.int .i64 0, .int .i64 0] [(0, 1), (1, 1)]), [.c (.int .i64 8), .c (.int .i64 10)], none⟩, ⟨some 4, .p (.build [.int .i64 0, .int .i64 0, .int .i64 0, .int .i64 0, .int .i64 0, .int .i64 0] [(0, 2), (2, 2), (4, 2)]), [.t 1, .t 2, .t 3], none⟩, ⟨none, .store 6 true, [.t 0, .t 4], none⟩]) (.ret))
theorem c76 : FnC Try.prog 76 5 a76 [.cell 0 6 true] := ⟨Try.call76, _, _, Try.func76, rfl, by kernel_rfl, by kernel_rfl, rfl⟩
def a77 : AC := .seq (.ops false [] [⟨some 0, .alloc 52 6 [.agg [.int .i64 0, .int .i64 0, .int .i64 0, .int .i64 0, .int .i64 0, .int .i64 0]], [], none⟩]) (.seq (.ops false [] [⟨some 1, .p (.build [.int .i64 0, .int .i64 0] [(0, 1), (1, 1)]), [.c (.int .i64 (-1)), .c (.int .i64 1)], none⟩, ⟨some 2, .p (.build [.int .i64 0, .int .i64 0] [(0, 1), (1, 1)]), [.c (.int .i64 1), .c (.int .i64 2)], none⟩, ⟨some 3, .p (.build [.int .i64 0, .int .i64 0] [(1, 1)]), [.c (.int .i64 1)], none⟩, ⟨some 4, .p (.build [.int .i64 0, .int .i64 0, .int .i64 0, .int .i64 0, .int .i64 0, .int .i64 0] [(0, 2), (2, 2), (4, 2)]), [.t 1, .t 2, .t 3], none⟩, ⟨none, .store 6 true, [.t 0, .t 4], none⟩]) (.ret))
theorem c77 : FnC Try.prog 77 5 a77 [.cell 0 6 true] := ⟨Try.call77, _, _, Try.func77, rfl, by kernel_rfl, by kernel_rfl, rfl⟩
def a78 : AC := .seq (.ops false [] [⟨some 0, .alloc 123 7 [.agg [.int .i64 0, .int .i64 0, .int .i64 0, .int .i64 0, .int .i64 0, .int .i64 0, .int .i64 0]], [], none⟩]) (.seq (.ops false [] [⟨some 1, .p (.build [.int .i64 0, .int .i64 0] [(0, 1), (1, 1)]), [.c (.int .i64 (-100)), .c (.int .i64 100)], none⟩, ⟨some 2, .p (.build [.int .i64 0, .int .i64 0] [(0, 1), (1, 1)]), [.c (.int .i64 5), .c (.int .i64 50)], none⟩, ⟨some 3, .p (.build [.int .i64 0, .int .i64 0, .int .i64 0, .int .i64 0, .int .i64 0, .int .i64 0, .int .i64 0] [(0, 2), (2, 2), (4, 1), (6, 1)]), [.t 1, .t 2, .c (.int .i64 1), .c (.int .i64 20)], none⟩, ⟨none, .store 7 true, [.t 0, .t 3], none⟩]) (.ret))
theorem c78 : FnC Try.prog 78 4 a78 [.cell 0 7 true] := ⟨Try.call78, _, _, Try.func78, rfl, by kernel_rfl, by kernel_rfl, rfl⟩
namespace Wa
end Wa
open Go Go.Proofs Eng
set_option maxRecDepth 100000
set_option linter.unusedSimpArgs false
set_option linter.unusedVariables false
namespace Wa
theorem k_CopyVortices (l : List Vo) (hl : l.length ≤ 1000) : FOk P 22 [.vs (l.map eVo)] (.vs (l.map eVo)) := by
  have m1 : (l.length ≤ maxLen) = True := mx (by omega)
  have m2 : (l.length * 24 ≤ 140737488355328) = True := by simp only [eq_iff_iff, iff_true]; omega
  have m3 : (l.map eVo).all (fun v => decide (v.cells.length = 3)) = true := by simp [List.all_map, AV.cells]
  refine c22.fok (by simp only [subs, sub1, free_Vo]) (Cor.run (noC_good _) (noHx_good _) hm ?_)
  simp +contextual -implicitDefEqProofs (maxSteps := 2000000) only [bg_eq, a22, List.length_map, m1, m2, m3, ruB, rh_no, Int.reduceLT, Int.reduceLE, Int.reduceAdd, Int.reduceSub, Int.reduceMul, Int.reduceNeg, Int.reduceToNat, Int.reduceEq, Int.reduceNe, Int.reduceTDiv, Int.reduceTMod, implies_true, putL, appN, appX, appC, Eng.Fi, reduceCtorEq, exists_eq_left', exists_eq_left, if_true, if_false, List.replicate, Nat.reduceAdd, Nat.reduceSub, Nat.reduceMul, Nat.reduceLeDiff, Nat.reduceLT, Nat.reduceEqDiff]
  have t1 : (l.map eVo).take l.length = l.map eVo := by rw [List.take_of_length_le]; simp
  simp [free_Vo, t1]
def cf_CopyVortices : List AV → Option AV
  | [.vs l_v] => onL dVo l_v fun l => if l.length ≤ 1000 then some (.vs (l.map eVo)) else none
  | _ => none
theorem g_CopyVortices : Fn P 22 cf_CopyVortices := fun args v hh => by
  unfold cf_CopyVortices at hh; split at hh
  · obtain ⟨l, rfl, hh1⟩ := onL_inv dVo_inv hh
    split at hh1
    · rename_i hc; have hk := Option.some.inj hh1; subst hk; exact k_CopyVortices _ hc
    · cases hh1
  · cases hh
theorem x_CopyVortices (l : List Vo) (hc : (l.length ≤ 1000) = True) : cf_CopyVortices [.vs (l.map eVo)] = some (.vs (l.map eVo)) := by
  simp only [cf_CopyVortices, onL_map dVo_e]
  exact if_pos (by rw [hc]; trivial)
theorem k_wPair : FOk P 72 [] (ePa ⟨0, 10, 3, 10⟩) := by
  refine c72.fok rfl (Cor.run (noC_good _) (noHx_good _) hm ?_)
  simp +contextual -implicitDefEqProofs (maxSteps := 2000000) only [bg_eq, a72, ruB, rh_no, Int.reduceLT, Int.reduceLE, Int.reduceAdd, Int.reduceSub, Int.reduceMul, Int.reduceNeg, Int.reduceToNat, Int.reduceEq, Int.reduceNe, Int.reduceTDiv, Int.reduceTMod, implies_true, putL, appN, appX, appC, Eng.Fi, reduceCtorEq, exists_eq_left', exists_eq_left, if_true, if_false, List.replicate, Nat.reduceAdd, Nat.reduceSub, Nat.reduceMul, Nat.reduceLeDiff, Nat.reduceLT, Nat.reduceEqDiff]
def cf_wPair : List AV → Option AV
  | [] => some (.agg [I 0, I 10, I 3, I 10])
  | _ => none
theorem g_wPair : Fn P 72 cf_wPair := fun args v h => by
  unfold cf_wPair at h; split at h
  · have h := Option.some.inj h; subst h; exact k_wPair 
  · cases h
theorem x_wPair : cf_wPair [] = some (.agg [I 0, I 10, I 3, I 10]) := rfl
theorem k_wSetup : FOk P 73 [] (eSu ⟨0, 0, 1⟩) := by
  refine c73.fok rfl (Cor.run (noC_good _) (noHx_good _) hm ?_)
  simp +contextual -implicitDefEqProofs (maxSteps := 2000000) only [bg_eq, a73, ruB, rh_no, Int.reduceLT, Int.reduceLE, Int.reduceAdd, Int.reduceSub, Int.reduceMul, Int.reduceNeg, Int.reduceToNat, Int.reduceEq, Int.reduceNe, Int.reduceTDiv, Int.reduceTMod, implies_true, putL, appN, appX, appC, Eng.Fi, reduceCtorEq, exists_eq_left', exists_eq_left, if_true, if_false, List.replicate, Nat.reduceAdd, Nat.reduceSub, Nat.reduceMul, Nat.reduceLeDiff, Nat.reduceLT, Nat.reduceEqDiff]
def cf_wSetup : List AV → Option AV
  | [] => some (.agg [I 0, I 0, I 1])
  | _ => none
theorem g_wSetup : Fn P 73 cf_wSetup := fun args v h => by
  unfold cf_wSetup at h; split at h
  · have h := Option.some.inj h; subst h; exact k_wSetup 
  · cases h
theorem x_wSetup : cf_wSetup [] = some (.agg [I 0, I 0, I 1]) := rfl
theorem k_wBox : FOk P 76 [] (eBx ⟨0, 2, 10, 12, 8, 10⟩) := by
  refine c76.fok rfl (Cor.run (noC_good _) (noHx_good _) hm ?_)
  simp +contextual -implicitDefEqProofs (maxSteps := 2000000) only [bg_eq, a76, ruB, rh_no, Int.reduceLT, Int.reduceLE, Int.reduceAdd, Int.reduceSub, Int.reduceMul, Int.reduceNeg, Int.reduceToNat, Int.reduceEq, Int.reduceNe, Int.reduceTDiv, Int.reduceTMod, implies_true, putL, appN, appX, appC, Eng.Fi, reduceCtorEq, exists_eq_left', exists_eq_left, if_true, if_false, List.replicate, Nat.reduceAdd, Nat.reduceSub, Nat.reduceMul, Nat.reduceLeDiff, Nat.reduceLT, Nat.reduceEqDiff]
def cf_wBox : List AV → Option AV
  | [] => some (.agg [I 0, I 2, I 10, I 12, I 8, I 10])
  | _ => none
theorem g_wBox : Fn P 76 cf_wBox := fun args v h => by
  unfold cf_wBox at h; split at h
  · have h := Option.some.inj h; subst h; exact k_wBox 
  · cases h
theorem x_wBox : cf_wBox [] = some (.agg [I 0, I 2, I 10, I 12, I 8, I 10]) := rfl
theorem k_wDrift : FOk P 77 [] (eBx ⟨-1, 1, 1, 2, 0, 1⟩) := by
  refine c77.fok rfl (Cor.run (noC_good _) (noHx_good _) hm ?_)
  simp +contextual -implicitDefEqProofs (maxSteps := 2000000) only [bg_eq, a77, ruB, rh_no, Int.reduceLT, Int.reduceLE, Int.reduceAdd, Int.reduceSub, Int.reduceMul, Int.reduceNeg, Int.reduceToNat, Int.reduceEq, Int.reduceNe, Int.reduceTDiv, Int.reduceTMod, implies_true, putL, appN, appX, appC, Eng.Fi, reduceCtorEq, exists_eq_left', exists_eq_left, if_true, if_false, List.replicate, Nat.reduceAdd, Nat.reduceSub, Nat.reduceMul, Nat.reduceLeDiff, Nat.reduceLT, Nat.reduceEqDiff]
def cf_wDrift : List AV → Option AV
  | [] => some (.agg [I (-1), I 1, I 1, I 2, I 0, I 1])
  | _ => none
theorem g_wDrift : Fn P 77 cf_wDrift := fun args v h => by
  unfold cf_wDrift at h; split at h
  · have h := Option.some.inj h; subst h; exact k_wDrift 
  · cases h
theorem x_wDrift : cf_wDrift [] = some (.agg [I (-1), I 1, I 1, I 2, I 0, I 1]) := rfl
theorem k_wCorridor : FOk P 78 [] (eCo ⟨-100, 100, 5, 50, 1, 0, 20⟩) := by
  refine c78.fok rfl (Cor.run (noC_good _) (noHx_good _) hm ?_)
  simp +contextual -implicitDefEqProofs (maxSteps := 2000000) only [bg_eq, a78, ruB, rh_no, Int.reduceLT, Int.reduceLE, Int.reduceAdd, Int.reduceSub, Int.reduceMul, Int.reduceNeg, Int.reduceToNat, Int.reduceEq, Int.reduceNe, Int.reduceTDiv, Int.reduceTMod, implies_true, putL, appN, appX, appC, Eng.Fi, reduceCtorEq, exists_eq_left', exists_eq_left, if_true, if_false, List.replicate, Nat.reduceAdd, Nat.reduceSub, Nat.reduceMul, Nat.reduceLeDiff, Nat.reduceLT, Nat.reduceEqDiff]
def cf_wCorridor : List AV → Option AV
  | [] => some (.agg [I (-100), I 100, I 5, I 50, I 1, I 0, I 20])
  | _ => none
theorem g_wCorridor : Fn P 78 cf_wCorridor := fun args v h => by
  unfold cf_wCorridor at h; split at h
  · have h := Option.some.inj h; subst h; exact k_wCorridor 
  · cases h
theorem x_wCorridor : cf_wCorridor [] = some (.agg [I (-100), I 100, I 5, I 50, I 1, I 0, I 20]) := rfl
end Wa
