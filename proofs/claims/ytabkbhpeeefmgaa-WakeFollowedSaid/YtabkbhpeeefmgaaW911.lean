import Derived.Test.YtabkbhpeeefmgaaEngS9
import Derived.Test.YtabkbhpeeefmgaaW910
open Go Go.Proofs Eng
set_option maxRecDepth 100000
set_option linter.unusedSimpArgs false
set_option linter.unusedVariables false
def a21 : AC := .seq (.ops false [] [⟨some 6, .p (.mov), [.c (.nilslice)], none⟩, ⟨some 7, .p (.mov), [.c (.int .i64 0)], none⟩]) (.seq (.seq (.ops false [] [⟨some 9, .p (.mov), [.t 0], none⟩, ⟨some 10, .p (.mov), [.t 1], none⟩, ⟨some 11, .p (.mov), [.t 2], none⟩, ⟨some 12, .call 88, [.t 9, .t 10, .t 11], none⟩, ⟨some 8, .p (.mov), [.t 12], none⟩]) (.seq (.ops false [] [⟨some 13, .p (.mov), [.t 8], none⟩, ⟨some 14, .p (.binI .neq), [.t 13, .c (.int .i64 0)], none⟩]) (.cond (.t 14) (.seq (.ops false [] [⟨some 15, .p (.mov), [.t 8], none⟩, ⟨some 6, .p (.mov), [.c (.nilslice)], none⟩, ⟨some 7, .p (.mov), [.t 15], none⟩]) (.ret)) (.skip)))) (.seq (.ops false [] [⟨some 16, .p (.mov), [.t 0], none⟩, ⟨some 17, .p (.mov), [.t 1], none⟩, ⟨some 18, .p (.mov), [.t 2], none⟩, ⟨some 19, .call 84, [.t 16, .t 17, .t 18], none⟩, ⟨some 6, .p (.mov), [.t 19], none⟩, ⟨some 7, .p (.mov), [.c (.int .i64 0)], none⟩]) (.ret)))
theorem c21 : FnC Try.prog 21 20 a21 [.tmp 6, .tmp 7] := ⟨Try.call21, _, _, Try.func21, rfl, by kernel_rfl, by kernel_rfl, rfl⟩
def a83 : AC := .seq (.ops false [] [⟨some 4, .p (.mov), [.c (.nilslice)], none⟩]) (.seq (.seq (.ops false [] [⟨some 9, .p (.mov), [.t 1], none⟩, ⟨some 10, .p (.binI .lss), [.t 9, .c (.int .i64 0)], none⟩]) (.cond (.t 10) (.bad) (.skip))) (.seq (.ops false [] [⟨some 13, .p (.mov), [.t 0], none⟩, ⟨some 14, .p (.lenS), [.t 13], none⟩, ⟨some 15, .p (.conv .u64), [.t 14], none⟩, ⟨some 16, .p (.mov), [.t 1], none⟩, ⟨some 17, .p (.conv .u64), [.t 16], none⟩, ⟨some 18, .call 135, [.t 15, .t 17], none⟩, ⟨some 12, .p (.mov), [.t 18], none⟩, ⟨some 19, .p (.ext 0), [.t 12], none⟩, ⟨some 20, .p (.ext 1), [.t 12], none⟩, ⟨some 5, .p (.mov), [.t 19], none⟩, ⟨some 6, .p (.mov), [.t 20], none⟩]) (.seq (.seq (.ops false [] [⟨some 21, .p (.mov), [.t 5], none⟩, ⟨some 22, .p (.binI .gtr), [.t 21, .c (.int .u64 0)], none⟩, ⟨some 23, .p (.mov), [.t 22], none⟩, ⟨some 24, .p (.mov), [.t 6], some (23, false)⟩, ⟨some 25, .p (.binI .gtr), [.t 24, .c (.int .u64 9223372036854775807)], some (23, false)⟩, ⟨some 26, .p (.pick), [.t 23, .c (.bool true), .t 25], none⟩]) (.cond (.t 26) (.bad) (.skip))) (.seq (.ops false [] [⟨some 28, .p (.mov), [.t 6], none⟩, ⟨some 29, .p (.conv .i64), [.t 28], none⟩, ⟨some 30, .mks 3 8 (.int .i64 0), [.t 29, .t 29], none⟩, ⟨some 7, .p (.mov), [.t 30], none⟩]) (.seq (.ops false [] [⟨some 31, .p (.mov), [.t 7], none⟩, ⟨some 32, .p (.mov), [.t 0], none⟩, ⟨some 33, .cpy, [.t 31, .t 32], none⟩, ⟨some 8, .p (.mov), [.t 33], none⟩]) (.seq (.block 0 (.loop (.seq (.seq (.ops false [] [⟨some 34, .p (.mov), [.t 8], none⟩, ⟨some 35, .p (.mov), [.t 7], none⟩, ⟨some 36, .p (.lenS), [.t 35], none⟩, ⟨some 37, .p (.binI .lss), [.t 34, .t 36], none⟩]) (.cond (.t 37) (.skip) (.exit 0))) (.block 1 (.ops true [] [⟨some 38, .p (.mov), [.t 8], none⟩, ⟨some 39, .p (.mov), [.t 7], none⟩, ⟨some 40, .p (.mov), [.t 8], none⟩, ⟨some 41, .p (.slc 1 true false false), [.t 39, .t 40], none⟩, ⟨some 42, .p (.mov), [.t 7], none⟩, ⟨some 43, .p (.mov), [.t 8], none⟩, ⟨some 44, .p (.slc 1 false true false), [.t 42, .t 43], none⟩, ⟨some 45, .cpy, [.t 41, .t 44], none⟩, ⟨some 46, .p (.binI .add), [.t 38, .t 45], none⟩, ⟨some 8, .p (.mov), [.t 46], none⟩]))))) (.seq (.ops false [] [⟨some 47, .p (.mov), [.t 7], none⟩, ⟨some 4, .p (.mov), [.t 47], none⟩]) (.ret))))))))
theorem c83 : FnC Try.prog 83 48 a83 [.tmp 4] := ⟨Try.call83, _, _, Try.func83, rfl, by kernel_rfl, by kernel_rfl, rfl⟩
def a84 : AC := .seq (.ops false [] [⟨some 6, .p (.mov), [.c (.nilslice)], none⟩]) (.seq (.seq (.ops false [] [⟨some 12, .p (.mov), [.t 0], none⟩, ⟨some 13, .p (.lenS), [.t 12], none⟩, ⟨some 14, .p (.binI .eql), [.t 13, .c (.int .i64 0)], none⟩]) (.cond (.t 14) (.seq (.ops false [] [⟨some 6, .p (.mov), [.c (.nilslice)], none⟩]) (.ret)) (.skip))) (.seq (.ops false [] [⟨some 16, .p (.mov), [.t 0], none⟩, ⟨some 17, .p (.mov), [.t 1], none⟩, ⟨some 18, .p (.mov), [.t 2], none⟩, ⟨some 19, .call 111, [.t 16, .t 17, .t 18], none⟩, ⟨some 20, .call 106, [.t 19], none⟩, ⟨some 15, .p (.mov), [.t 20], none⟩, ⟨some 21, .p (.ext 0), [.t 15], none⟩, ⟨some 22, .p (.ext 1), [.t 15], none⟩, ⟨some 7, .p (.mov), [.t 21], none⟩, ⟨some 8, .p (.mov), [.t 22], none⟩]) (.seq (.ops false [] [⟨some 9, .p (.mov), [.c (.nilslice)], none⟩]) (.seq (.seq (.ops false [] [⟨some 23, .p (.mov), [.t 7], none⟩, ⟨some 24, .p (.iaddrS 1), [.t 23, .c (.int .i64 0)], none⟩, ⟨some 25, .load 1 false, [.t 24], none⟩, ⟨some 26, .p (.mov), [.t 0], none⟩, ⟨some 27, .p (.lenS), [.t 26], none⟩, ⟨some 28, .p (.slc 1 false true false), [.t 25, .t 27], none⟩, ⟨some 29, .p (.lenS), [.t 28], none⟩, ⟨some 30, .p (.mov), [.c (.int .i64 0)], none⟩]) (.block 0 (.loop (.seq (.ops false [] [⟨some 31, .p (.binI .lss), [.t 30, .t 29], none⟩]) (.seq (.cond (.t 31) (.skip) (.exit 0)) (.seq (.block 1 (.seq (.ops false [] [⟨some 32, .p (.iaddrS 1), [.t 28, .t 30], none⟩, ⟨some 33, .load 1 false, [.t 32], none⟩, ⟨some 11, .p (.mov), [.t 33], none⟩]) (.seq (.seq (.ops false [] [⟨some 34, .p (.mov), [.t 11], none⟩, ⟨some 35, .p (.mov), [.t 1], none⟩, ⟨some 36, .p (.lenS), [.t 35], none⟩, ⟨some 37, .p (.binI .geq), [.t 34, .t 36], none⟩]) (.cond (.t 37) (.ops false [] [⟨some 11, .p (.mov), [.c (.int .i64 (-1))], none⟩]) (.skip))) (.ops false [] [⟨some 38, .p (.mov), [.t 9], none⟩, ⟨some 39, .p (.mov), [.t 11], none⟩, ⟨some 40, .fbs 1, [.t 39], none⟩, ⟨some 41, .app 3 1 8, [.t 38, .t 40], none⟩, ⟨some 9, .p (.mov), [.t 41], none⟩])))) (.ops false [] [⟨some 42, .p (.binI .add), [.t 30, .c (.int .i64 1)], none⟩, ⟨some 30, .p (.mov), [.t 42], none⟩]))))))) (.seq (.ops false [] [⟨some 43, .p (.mov), [.t 9], none⟩, ⟨some 6, .p (.mov), [.t 43], none⟩]) (.ret))))))
theorem c84 : FnC Try.prog 84 44 a84 [.tmp 6] := ⟨Try.call84, _, _, Try.func84, rfl, by kernel_rfl, by kernel_rfl, rfl⟩
def a135 : AC := .seq (.ops false [] [⟨some 4, .p (.mov), [.c (.int .u64 0)], none⟩, ⟨some 5, .p (.mov), [.c (.int .u64 0)], none⟩]) (.seq (.cond (.c (.bool false)) (.seq (.ops false [] [⟨some 11, .p (.mov), [.t 0], none⟩, ⟨some 12, .p (.conv .u32), [.t 11], none⟩, ⟨some 13, .p (.mov), [.t 1], none⟩, ⟨some 14, .p (.conv .u32), [.t 13], none⟩, ⟨some 15, .call 157, [.t 12, .t 14], none⟩, ⟨some 10, .p (.mov), [.t 15], none⟩, ⟨some 16, .p (.ext 0), [.t 10], none⟩, ⟨some 17, .p (.ext 1), [.t 10], none⟩, ⟨some 6, .p (.mov), [.t 16], none⟩, ⟨some 7, .p (.mov), [.t 17], none⟩]) (.seq (.ops false [] [⟨some 18, .p (.mov), [.t 6], none⟩, ⟨some 19, .p (.conv .u64), [.t 18], none⟩, ⟨some 20, .p (.mov), [.t 7], none⟩, ⟨some 21, .p (.conv .u64), [.t 20], none⟩, ⟨some 4, .p (.mov), [.t 19], none⟩, ⟨some 5, .p (.mov), [.t 21], none⟩]) (.ret))) (.skip)) (.seq (.ops false [] [⟨some 23, .p (.mov), [.t 0], none⟩, ⟨some 24, .p (.mov), [.t 1], none⟩, ⟨some 25, .call 158, [.t 23, .t 24], none⟩, ⟨some 22, .p (.mov), [.t 25], none⟩, ⟨some 26, .p (.ext 0), [.t 22], none⟩, ⟨some 27, .p (.ext 1), [.t 22], none⟩, ⟨some 8, .p (.mov), [.t 26], none⟩, ⟨some 9, .p (.mov), [.t 27], none⟩]) (.seq (.ops false [] [⟨some 28, .p (.mov), [.t 8], none⟩, ⟨some 29, .p (.mov), [.t 9], none⟩, ⟨some 4, .p (.mov), [.t 28], none⟩, ⟨some 5, .p (.mov), [.t 29], none⟩]) (.ret))))
theorem c135 : FnC Try.prog 135 30 a135 [.tmp 4, .tmp 5] := ⟨Try.call135, _, _, Try.func135, rfl, by kernel_rfl, by kernel_rfl, rfl⟩
def a158 : AC := .seq (.ops false [] [⟨some 4, .p (.mov), [.c (.int .u64 0)], none⟩, ⟨some 5, .p (.mov), [.c (.int .u64 0)], none⟩]) (.seq (.ops false [] [⟨some 14, .p (.mov), [.t 0], none⟩, ⟨some 15, .p (.binI .and), [.t 14, .c (.int .u64 4294967295)], none⟩, ⟨some 6, .p (.mov), [.t 15], none⟩]) (.seq (.ops false [] [⟨some 16, .p (.mov), [.t 0], none⟩, ⟨some 17, .p (.shf false), [.t 16, .c (.int .u64 32)], none⟩, ⟨some 7, .p (.mov), [.t 17], none⟩]) (.seq (.ops false [] [⟨some 18, .p (.mov), [.t 1], none⟩, ⟨some 19, .p (.binI .and), [.t 18, .c (.int .u64 4294967295)], none⟩, ⟨some 8, .p (.mov), [.t 19], none⟩]) (.seq (.ops false [] [⟨some 20, .p (.mov), [.t 1], none⟩, ⟨some 21, .p (.shf false), [.t 20, .c (.int .u64 32)], none⟩, ⟨some 9, .p (.mov), [.t 21], none⟩]) (.seq (.ops false [] [⟨some 22, .p (.mov), [.t 6], none⟩, ⟨some 23, .p (.mov), [.t 8], none⟩, ⟨some 24, .p (.binI .mul), [.t 22, .t 23], none⟩, ⟨some 10, .p (.mov), [.t 24], none⟩]) (.seq (.ops false [] [⟨some 25, .p (.mov), [.t 7], none⟩, ⟨some 26, .p (.mov), [.t 8], none⟩, ⟨some 27, .p (.binI .mul), [.t 25, .t 26], none⟩, ⟨some 28, .p (.mov), [.t 10], none⟩, ⟨some 29, .p (.shf false), [.t 28, .c (.int .u64 32)], none⟩, ⟨some 30, .p (.binI .add), [.t 27, .t 29], none⟩, ⟨some 11, .p (.mov), [.t 30], none⟩]) (.seq (.ops false [] [⟨some 31, .p (.mov), [.t 11], none⟩, ⟨some 32, .p (.binI .and), [.t 31, .c (.int .u64 4294967295)], none⟩, ⟨some 12, .p (.mov), [.t 32], none⟩]) (.seq (.ops false [] [⟨some 33, .p (.mov), [.t 11], none⟩, ⟨some 34, .p (.shf false), [.t 33, .c (.int .u64 32)], none⟩, ⟨some 13, .p (.mov), [.t 34], none⟩]) (.seq (.ops false [] [⟨some 35, .p (.mov), [.t 12], none⟩, ⟨some 36, .p (.mov), [.t 6], none⟩, ⟨some 37, .p (.mov), [.t 9], none⟩, ⟨some 38, .p (.binI .mul), [.t 36, .t 37], none⟩, ⟨some 39, .p (.binI .add), [.t 35, .t 38], none⟩, ⟨some 12, .p (.mov), [.t 39], none⟩]) (.seq (.ops false [] [⟨some 40, .p (.mov), [.t 7], none⟩, ⟨some 41, .p (.mov), [.t 9], none⟩, ⟨some 42, .p (.binI .mul), [.t 40, .t 41], none⟩, ⟨some 43, .p (.mov), [.t 13], none⟩, ⟨some 44, .p (.binI .add), [.t 42, .t 43], none⟩, ⟨some 45, .p (.mov), [.t 12], none⟩, ⟨some 46, .p (.shf false), [.t 45, .c (.int .u64 32)], none⟩, ⟨some 47, .p (.binI .add), [.t 44, .t 46], none⟩, ⟨some 4, .p (.mov), [.t 47], none⟩]) (.seq (.ops false [] [⟨some 48, .p (.mov), [.t 0], none⟩, ⟨some 49, .p (.mov), [.t 1], none⟩, ⟨some 50, .p (.binI .mul), [.t 48, .t 49], none⟩, ⟨some 5, .p (.mov), [.t 50], none⟩]) (.ret))))))))))))
theorem c158 : FnC Try.prog 158 51 a158 [.tmp 4, .tmp 5] := ⟨Try.call158, _, _, Try.func158, rfl, by kernel_rfl, by kernel_rfl, rfl⟩
namespace Wa
theorem wrapU {n : Int} (h1 : (0 ≤ n) = True) (h2 : (n ≤ 18446744073709551615) = True) : IntKind.wrap .u64 n = n := by
  have h1 : 0 ≤ n := by rw [h1]; trivial
  have h2 : n ≤ 18446744073709551615 := by rw [h2]; trivial
  simp only [IntKind.wrap, IntKind.bits, IntKind.signed]
  simp
  omega
theorem an0 : evP (.binI .and) [.int .u64 0, .int .u64 4294967295] = some (.int .u64 0) := by rw [e_and]; kernel_rfl
theorem an1 : evP (.binI .and) [.int .u64 1, .int .u64 4294967295] = some (.int .u64 1) := by rw [e_and]; kernel_rfl
theorem an2 : evP (.binI .and) [.int .u64 2, .int .u64 4294967295] = some (.int .u64 2) := by rw [e_and]; kernel_rfl
theorem an3 : evP (.binI .and) [.int .u64 3, .int .u64 4294967295] = some (.int .u64 3) := by rw [e_and]; kernel_rfl
theorem sh0 : evP (.shf false) [.int .u64 0, .int .u64 32] = some (.int .u64 0) := by kernel_rfl
theorem sh1 : evP (.shf false) [.int .u64 1, .int .u64 32] = some (.int .u64 0) := by kernel_rfl
theorem sh2 : evP (.shf false) [.int .u64 2, .int .u64 32] = some (.int .u64 0) := by kernel_rfl
theorem sh3 : evP (.shf false) [.int .u64 3, .int .u64 32] = some (.int .u64 0) := by kernel_rfl
theorem k_Mul64_0 : FOk P 158 [.int .u64 1, .int .u64 0] (.tup [.int .u64 0, .int .u64 0]) := by
  refine c158.fok rfl (Cor.run (noC_good _) (noHx_good _) hm ?_)
  simp +contextual -implicitDefEqProofs (maxSteps := 2000000) only [bg_eq, a158, an0, an1, an2, an3, sh0, sh1, sh2, sh3, wrapU, ruB, rh_no, Int.reduceLT, Int.reduceLE, Int.reduceAdd, Int.reduceSub, Int.reduceMul, Int.reduceNeg, Int.reduceToNat, Int.reduceEq, Int.reduceNe, Int.reduceTDiv, Int.reduceTMod, implies_true, putL, appN, appX, appC, Eng.Fi, reduceCtorEq, exists_eq_left', exists_eq_left, if_true, if_false, List.replicate, Nat.reduceAdd, Nat.reduceSub, Nat.reduceMul, Nat.reduceLeDiff, Nat.reduceLT, Nat.reduceEqDiff]
theorem k_Mul64_1 : FOk P 158 [.int .u64 1, .int .u64 1] (.tup [.int .u64 0, .int .u64 1]) := by
  refine c158.fok rfl (Cor.run (noC_good _) (noHx_good _) hm ?_)
  simp +contextual -implicitDefEqProofs (maxSteps := 2000000) only [bg_eq, a158, an0, an1, an2, an3, sh0, sh1, sh2, sh3, wrapU, ruB, rh_no, Int.reduceLT, Int.reduceLE, Int.reduceAdd, Int.reduceSub, Int.reduceMul, Int.reduceNeg, Int.reduceToNat, Int.reduceEq, Int.reduceNe, Int.reduceTDiv, Int.reduceTMod, implies_true, putL, appN, appX, appC, Eng.Fi, reduceCtorEq, exists_eq_left', exists_eq_left, if_true, if_false, List.replicate, Nat.reduceAdd, Nat.reduceSub, Nat.reduceMul, Nat.reduceLeDiff, Nat.reduceLT, Nat.reduceEqDiff]
theorem k_Mul64_2 : FOk P 158 [.int .u64 1, .int .u64 2] (.tup [.int .u64 0, .int .u64 2]) := by
  refine c158.fok rfl (Cor.run (noC_good _) (noHx_good _) hm ?_)
  simp +contextual -implicitDefEqProofs (maxSteps := 2000000) only [bg_eq, a158, an0, an1, an2, an3, sh0, sh1, sh2, sh3, wrapU, ruB, rh_no, Int.reduceLT, Int.reduceLE, Int.reduceAdd, Int.reduceSub, Int.reduceMul, Int.reduceNeg, Int.reduceToNat, Int.reduceEq, Int.reduceNe, Int.reduceTDiv, Int.reduceTMod, implies_true, putL, appN, appX, appC, Eng.Fi, reduceCtorEq, exists_eq_left', exists_eq_left, if_true, if_false, List.replicate, Nat.reduceAdd, Nat.reduceSub, Nat.reduceMul, Nat.reduceLeDiff, Nat.reduceLT, Nat.reduceEqDiff]
theorem k_Mul64_3 : FOk P 158 [.int .u64 1, .int .u64 3] (.tup [.int .u64 0, .int .u64 3]) := by
  refine c158.fok rfl (Cor.run (noC_good _) (noHx_good _) hm ?_)
  simp +contextual -implicitDefEqProofs (maxSteps := 2000000) only [bg_eq, a158, an0, an1, an2, an3, sh0, sh1, sh2, sh3, wrapU, ruB, rh_no, Int.reduceLT, Int.reduceLE, Int.reduceAdd, Int.reduceSub, Int.reduceMul, Int.reduceNeg, Int.reduceToNat, Int.reduceEq, Int.reduceNe, Int.reduceTDiv, Int.reduceTMod, implies_true, putL, appN, appX, appC, Eng.Fi, reduceCtorEq, exists_eq_left', exists_eq_left, if_true, if_false, List.replicate, Nat.reduceAdd, Nat.reduceSub, Nat.reduceMul, Nat.reduceLeDiff, Nat.reduceLT, Nat.reduceEqDiff]
def mulC : List AV → Option AV
  | [.int .u64 1, .int .u64 n] => if n = 0 then some (.tup [.int .u64 0, .int .u64 0]) else if n = 1 then some (.tup [.int .u64 0, .int .u64 1]) else if n = 2 then some (.tup [.int .u64 0, .int .u64 2]) else if n = 3 then some (.tup [.int .u64 0, .int .u64 3]) else none
  | _ => none
theorem mulC_good {f : Nat} (h0 : FOk P f [.int .u64 1, .int .u64 0] (.tup [.int .u64 0, .int .u64 0])) (h1 : FOk P f [.int .u64 1, .int .u64 1] (.tup [.int .u64 0, .int .u64 1])) (h2 : FOk P f [.int .u64 1, .int .u64 2] (.tup [.int .u64 0, .int .u64 2])) (h3 : FOk P f [.int .u64 1, .int .u64 3] (.tup [.int .u64 0, .int .u64 3])) : Fn P f mulC := fun args v h => by
  unfold mulC at h
  split at h
  · split at h
    · rename_i e; subst e; cases h; exact h0
    · split at h
      · rename_i e; subst e; cases h; exact h1
      · split at h
        · rename_i e; subst e; cases h; exact h2
        · split at h
          · rename_i e; subst e; cases h; exact h3
          · cases h
  · cases h
theorem g_Mul64 : Fn P 158 mulC := mulC_good k_Mul64_0 k_Mul64_1 k_Mul64_2 k_Mul64_3
theorem x_mul0 : mulC [.int .u64 1, .int .u64 0] = some (.tup [.int .u64 0, .int .u64 0]) := rfl
theorem x_mul1 : mulC [.int .u64 1, .int .u64 1] = some (.tup [.int .u64 0, .int .u64 1]) := rfl
theorem x_mul2 : mulC [.int .u64 1, .int .u64 2] = some (.tup [.int .u64 0, .int .u64 2]) := rfl
theorem x_mul3 : mulC [.int .u64 1, .int .u64 3] = some (.tup [.int .u64 0, .int .u64 3]) := rfl
theorem k_Mul_0 : FOk P 135 [.int .u64 1, .int .u64 0] (.tup [.int .u64 0, .int .u64 0]) := by
  refine c135.fok rfl (Cor.run (addC_good g_Mul64 (noC_good _)) (noHx_good _) hm ?_)
  simp +contextual -implicitDefEqProofs (maxSteps := 2000000) only [bg_eq, a135, x_mul0, ruB, rh_no, Int.reduceLT, Int.reduceLE, Int.reduceAdd, Int.reduceSub, Int.reduceMul, Int.reduceNeg, Int.reduceToNat, Int.reduceEq, Int.reduceNe, Int.reduceTDiv, Int.reduceTMod, implies_true, putL, appN, appX, appC, Eng.Fi, reduceCtorEq, exists_eq_left', exists_eq_left, if_true, if_false, List.replicate, Nat.reduceAdd, Nat.reduceSub, Nat.reduceMul, Nat.reduceLeDiff, Nat.reduceLT, Nat.reduceEqDiff]
theorem k_Mul_1 : FOk P 135 [.int .u64 1, .int .u64 1] (.tup [.int .u64 0, .int .u64 1]) := by
  refine c135.fok rfl (Cor.run (addC_good g_Mul64 (noC_good _)) (noHx_good _) hm ?_)
  simp +contextual -implicitDefEqProofs (maxSteps := 2000000) only [bg_eq, a135, x_mul1, ruB, rh_no, Int.reduceLT, Int.reduceLE, Int.reduceAdd, Int.reduceSub, Int.reduceMul, Int.reduceNeg, Int.reduceToNat, Int.reduceEq, Int.reduceNe, Int.reduceTDiv, Int.reduceTMod, implies_true, putL, appN, appX, appC, Eng.Fi, reduceCtorEq, exists_eq_left', exists_eq_left, if_true, if_false, List.replicate, Nat.reduceAdd, Nat.reduceSub, Nat.reduceMul, Nat.reduceLeDiff, Nat.reduceLT, Nat.reduceEqDiff]
theorem k_Mul_2 : FOk P 135 [.int .u64 1, .int .u64 2] (.tup [.int .u64 0, .int .u64 2]) := by
  refine c135.fok rfl (Cor.run (addC_good g_Mul64 (noC_good _)) (noHx_good _) hm ?_)
  simp +contextual -implicitDefEqProofs (maxSteps := 2000000) only [bg_eq, a135, x_mul2, ruB, rh_no, Int.reduceLT, Int.reduceLE, Int.reduceAdd, Int.reduceSub, Int.reduceMul, Int.reduceNeg, Int.reduceToNat, Int.reduceEq, Int.reduceNe, Int.reduceTDiv, Int.reduceTMod, implies_true, putL, appN, appX, appC, Eng.Fi, reduceCtorEq, exists_eq_left', exists_eq_left, if_true, if_false, List.replicate, Nat.reduceAdd, Nat.reduceSub, Nat.reduceMul, Nat.reduceLeDiff, Nat.reduceLT, Nat.reduceEqDiff]
theorem k_Mul_3 : FOk P 135 [.int .u64 1, .int .u64 3] (.tup [.int .u64 0, .int .u64 3]) := by
  refine c135.fok rfl (Cor.run (addC_good g_Mul64 (noC_good _)) (noHx_good _) hm ?_)
  simp +contextual -implicitDefEqProofs (maxSteps := 2000000) only [bg_eq, a135, x_mul3, ruB, rh_no, Int.reduceLT, Int.reduceLE, Int.reduceAdd, Int.reduceSub, Int.reduceMul, Int.reduceNeg, Int.reduceToNat, Int.reduceEq, Int.reduceNe, Int.reduceTDiv, Int.reduceTMod, implies_true, putL, appN, appX, appC, Eng.Fi, reduceCtorEq, exists_eq_left', exists_eq_left, if_true, if_false, List.replicate, Nat.reduceAdd, Nat.reduceSub, Nat.reduceMul, Nat.reduceLeDiff, Nat.reduceLT, Nat.reduceEqDiff]
theorem g_Mul : Fn P 135 mulC := mulC_good k_Mul_0 k_Mul_1 k_Mul_2 k_Mul_3
theorem l_Repeat_0 : ∃ n', LOk P 83 [.vs [I (-1)], I 0] [] 0 (.slice 0 1 0 0) [⟨0, 0, .rows 3 1 []⟩] n' := by
  refine ⟨1, ?_⟩
  have o0 : (0 ≤ maxLen) = True := mx (by omega)
  refine c83.lok (Cor.post (Cor.run (addC_good g_Mul (noC_good _)) (noHx_good _) hm ?_))
  simp +contextual -implicitDefEqProofs (maxSteps := 2000000) only [bg_eq, a83, x_mul0, wrapU, Int.natCast_one, Int.natCast_zero, Int.cast_ofNat_Int, s_mks1, mk_ok, s_cpy1, cp_sl, cpyE_some, cpX_some, putA_set, ap_toSet, h_mks, h_cpy, f_cpy, wA_set, e_slcW, sw_ok, o0, rs_nil, rs_t, rs_f, ag_nils, ag_sl, ag_vs, ag_str, ag_ptr, ag_nilp, ag_vp, ag_fun, FinL, ruH, ruB, Int.reduceLT, Int.reduceLE, Int.reduceAdd, Int.reduceSub, Int.reduceMul, Int.reduceNeg, Int.reduceToNat, Int.reduceEq, Int.reduceNe, Int.reduceTDiv, Int.reduceTMod, implies_true, putL, appN, appX, appC, Eng.Fi, reduceCtorEq, exists_eq_left', exists_eq_left, if_true, if_false, List.replicate, Nat.reduceAdd, Nat.reduceSub, Nat.reduceMul, Nat.reduceLeDiff, Nat.reduceLT, Nat.reduceEqDiff]
  refine Cor.rounds (addC_good g_Mul (noC_good _)) (noHx_good _) hm 1 ?_
  simp +contextual -implicitDefEqProofs (maxSteps := 2000000) only [Rd_s, wrapU, Int.natCast_one, Int.natCast_zero, Int.cast_ofNat_Int, s_mks1, mk_ok, s_cpy1, cp_sl, cpyE_some, cpX_some, putA_set, ap_toSet, h_mks, h_cpy, f_cpy, wA_set, e_slcW, sw_ok, rs_nil, rs_t, rs_f, ag_nils, ag_sl, ag_vs, ag_str, ag_ptr, ag_nilp, ag_vp, ag_fun, FinL, ruH, ruB, Int.reduceLT, Int.reduceLE, Int.reduceAdd, Int.reduceSub, Int.reduceMul, Int.reduceNeg, Int.reduceToNat, Int.reduceEq, Int.reduceNe, Int.reduceTDiv, Int.reduceTMod, implies_true, putL, appN, appX, appC, Eng.Fi, reduceCtorEq, exists_eq_left', exists_eq_left, if_true, if_false, List.replicate, Nat.reduceAdd, Nat.reduceSub, Nat.reduceMul, Nat.reduceLeDiff, Nat.reduceLT, Nat.reduceEqDiff]
  exact ⟨⟨[.any, .any, .any, .any, .slice 0 1 0 0, .any, .any, .any, .any, .any, .any, .any, .any, .any, .any, .any, .any, .any, .any, .any, .any, .any, .any, .any, .any, .any, .any, .any, .any, .any, .any, .any, .any, .any, .any, .any, .any, .any, .any, .any, .any, .any, .any, .any, .any, .any, .any, .any], [⟨0, 0, .rows 3 1 []⟩], 1⟩, Wkn.to ⟨0, [(0, 0)], [], 1, [4]⟩ rfl rfl (by simp [Wk.st, keepT, memN, Wk.fate, Wk.fate0, assoc, getE, Wk.hp, ABlk.sub, sub1, subs]), _, rfl, rfl, rfl, rfl⟩
theorem l_Repeat_1 : ∃ n', LOk P 83 [.vs [I (-1)], I 1] [] 0 (.slice 0 1 0 1) [⟨0, 0, .rows 3 1 [I (-1)]⟩] n' := by
  refine ⟨1, ?_⟩
  have o1 : (1 ≤ maxLen) = True := mx (by omega)
  refine c83.lok (Cor.post (Cor.run (addC_good g_Mul (noC_good _)) (noHx_good _) hm ?_))
  simp +contextual -implicitDefEqProofs (maxSteps := 2000000) only [bg_eq, a83, x_mul1, wrapU, Int.natCast_one, Int.natCast_zero, Int.cast_ofNat_Int, s_mks1, mk_ok, s_cpy1, cp_sl, cpyE_some, cpX_some, putA_set, ap_toSet, h_mks, h_cpy, f_cpy, wA_set, e_slcW, sw_ok, o1, rs_nil, rs_t, rs_f, ag_nils, ag_sl, ag_vs, ag_str, ag_ptr, ag_nilp, ag_vp, ag_fun, FinL, ruH, ruB, Int.reduceLT, Int.reduceLE, Int.reduceAdd, Int.reduceSub, Int.reduceMul, Int.reduceNeg, Int.reduceToNat, Int.reduceEq, Int.reduceNe, Int.reduceTDiv, Int.reduceTMod, implies_true, putL, appN, appX, appC, Eng.Fi, reduceCtorEq, exists_eq_left', exists_eq_left, if_true, if_false, List.replicate, Nat.reduceAdd, Nat.reduceSub, Nat.reduceMul, Nat.reduceLeDiff, Nat.reduceLT, Nat.reduceEqDiff]
  refine Cor.rounds (addC_good g_Mul (noC_good _)) (noHx_good _) hm 1 ?_
  simp +contextual -implicitDefEqProofs (maxSteps := 2000000) only [Rd_s, wrapU, Int.natCast_one, Int.natCast_zero, Int.cast_ofNat_Int, s_mks1, mk_ok, s_cpy1, cp_sl, cpyE_some, cpX_some, putA_set, ap_toSet, h_mks, h_cpy, f_cpy, wA_set, e_slcW, sw_ok, rs_nil, rs_t, rs_f, ag_nils, ag_sl, ag_vs, ag_str, ag_ptr, ag_nilp, ag_vp, ag_fun, FinL, ruH, ruB, Int.reduceLT, Int.reduceLE, Int.reduceAdd, Int.reduceSub, Int.reduceMul, Int.reduceNeg, Int.reduceToNat, Int.reduceEq, Int.reduceNe, Int.reduceTDiv, Int.reduceTMod, implies_true, putL, appN, appX, appC, Eng.Fi, reduceCtorEq, exists_eq_left', exists_eq_left, if_true, if_false, List.replicate, Nat.reduceAdd, Nat.reduceSub, Nat.reduceMul, Nat.reduceLeDiff, Nat.reduceLT, Nat.reduceEqDiff]
  exact ⟨⟨[.any, .any, .any, .any, .slice 0 1 0 1, .any, .any, .any, .any, .any, .any, .any, .any, .any, .any, .any, .any, .any, .any, .any, .any, .any, .any, .any, .any, .any, .any, .any, .any, .any, .any, .any, .any, .any, .any, .any, .any, .any, .any, .any, .any, .any, .any, .any, .any, .any, .any, .any], [⟨0, 0, .rows 3 1 [I (-1)]⟩], 1⟩, Wkn.to ⟨0, [(0, 0)], [], 1, [4]⟩ rfl rfl (by simp [Wk.st, keepT, memN, Wk.fate, Wk.fate0, assoc, getE, Wk.hp, ABlk.sub, sub1, subs]), _, rfl, rfl, rfl, rfl⟩
theorem l_Repeat_2 : ∃ n', LOk P 83 [.vs [I (-1)], I 2] [] 0 (.slice 0 1 0 2) [⟨0, 0, .rows 3 1 [I (-1), I (-1)]⟩] n' := by
  refine ⟨1, ?_⟩
  have o2 : (2 ≤ maxLen) = True := mx (by omega)
  refine c83.lok (Cor.post (Cor.run (addC_good g_Mul (noC_good _)) (noHx_good _) hm ?_))
  simp +contextual -implicitDefEqProofs (maxSteps := 2000000) only [bg_eq, a83, x_mul2, wrapU, Int.natCast_one, Int.natCast_zero, Int.cast_ofNat_Int, s_mks1, mk_ok, s_cpy1, cp_sl, cpyE_some, cpX_some, putA_set, ap_toSet, h_mks, h_cpy, f_cpy, wA_set, e_slcW, sw_ok, o2, rs_nil, rs_t, rs_f, ag_nils, ag_sl, ag_vs, ag_str, ag_ptr, ag_nilp, ag_vp, ag_fun, FinL, ruH, ruB, Int.reduceLT, Int.reduceLE, Int.reduceAdd, Int.reduceSub, Int.reduceMul, Int.reduceNeg, Int.reduceToNat, Int.reduceEq, Int.reduceNe, Int.reduceTDiv, Int.reduceTMod, implies_true, putL, appN, appX, appC, Eng.Fi, reduceCtorEq, exists_eq_left', exists_eq_left, if_true, if_false, List.replicate, Nat.reduceAdd, Nat.reduceSub, Nat.reduceMul, Nat.reduceLeDiff, Nat.reduceLT, Nat.reduceEqDiff]
  refine Cor.rounds (addC_good g_Mul (noC_good _)) (noHx_good _) hm 2 ?_
  simp +contextual -implicitDefEqProofs (maxSteps := 2000000) only [Rd_s, wrapU, Int.natCast_one, Int.natCast_zero, Int.cast_ofNat_Int, s_mks1, mk_ok, s_cpy1, cp_sl, cpyE_some, cpX_some, putA_set, ap_toSet, h_mks, h_cpy, f_cpy, wA_set, e_slcW, sw_ok, rs_nil, rs_t, rs_f, ag_nils, ag_sl, ag_vs, ag_str, ag_ptr, ag_nilp, ag_vp, ag_fun, FinL, ruH, ruB, Int.reduceLT, Int.reduceLE, Int.reduceAdd, Int.reduceSub, Int.reduceMul, Int.reduceNeg, Int.reduceToNat, Int.reduceEq, Int.reduceNe, Int.reduceTDiv, Int.reduceTMod, implies_true, putL, appN, appX, appC, Eng.Fi, reduceCtorEq, exists_eq_left', exists_eq_left, if_true, if_false, List.replicate, Nat.reduceAdd, Nat.reduceSub, Nat.reduceMul, Nat.reduceLeDiff, Nat.reduceLT, Nat.reduceEqDiff]
  exact ⟨⟨[.any, .any, .any, .any, .slice 0 1 0 2, .any, .any, .any, .any, .any, .any, .any, .any, .any, .any, .any, .any, .any, .any, .any, .any, .any, .any, .any, .any, .any, .any, .any, .any, .any, .any, .any, .any, .any, .any, .any, .any, .any, .any, .any, .any, .any, .any, .any, .any, .any, .any, .any], [⟨0, 0, .rows 3 1 [I (-1), I (-1)]⟩], 1⟩, Wkn.to ⟨0, [(0, 0)], [], 1, [4]⟩ rfl rfl (by simp [Wk.st, keepT, memN, Wk.fate, Wk.fate0, assoc, getE, Wk.hp, ABlk.sub, sub1, subs]), _, rfl, rfl, rfl, rfl⟩
theorem l_Repeat_3 : ∃ n', LOk P 83 [.vs [I (-1)], I 3] [] 0 (.slice 0 1 0 3) [⟨0, 0, .rows 3 1 [I (-1), I (-1), I (-1)]⟩] n' := by
  refine ⟨1, ?_⟩
  have o3 : (3 ≤ maxLen) = True := mx (by omega)
  refine c83.lok (Cor.post (Cor.run (addC_good g_Mul (noC_good _)) (noHx_good _) hm ?_))
  simp +contextual -implicitDefEqProofs (maxSteps := 2000000) only [bg_eq, a83, x_mul3, wrapU, Int.natCast_one, Int.natCast_zero, Int.cast_ofNat_Int, s_mks1, mk_ok, s_cpy1, cp_sl, cpyE_some, cpX_some, putA_set, ap_toSet, h_mks, h_cpy, f_cpy, wA_set, e_slcW, sw_ok, o3, rs_nil, rs_t, rs_f, ag_nils, ag_sl, ag_vs, ag_str, ag_ptr, ag_nilp, ag_vp, ag_fun, FinL, ruH, ruB, Int.reduceLT, Int.reduceLE, Int.reduceAdd, Int.reduceSub, Int.reduceMul, Int.reduceNeg, Int.reduceToNat, Int.reduceEq, Int.reduceNe, Int.reduceTDiv, Int.reduceTMod, implies_true, putL, appN, appX, appC, Eng.Fi, reduceCtorEq, exists_eq_left', exists_eq_left, if_true, if_false, List.replicate, Nat.reduceAdd, Nat.reduceSub, Nat.reduceMul, Nat.reduceLeDiff, Nat.reduceLT, Nat.reduceEqDiff]
  refine Cor.rounds (addC_good g_Mul (noC_good _)) (noHx_good _) hm 3 ?_
  simp +contextual -implicitDefEqProofs (maxSteps := 2000000) only [Rd_s, wrapU, Int.natCast_one, Int.natCast_zero, Int.cast_ofNat_Int, s_mks1, mk_ok, s_cpy1, cp_sl, cpyE_some, cpX_some, putA_set, ap_toSet, h_mks, h_cpy, f_cpy, wA_set, e_slcW, sw_ok, rs_nil, rs_t, rs_f, ag_nils, ag_sl, ag_vs, ag_str, ag_ptr, ag_nilp, ag_vp, ag_fun, FinL, ruH, ruB, Int.reduceLT, Int.reduceLE, Int.reduceAdd, Int.reduceSub, Int.reduceMul, Int.reduceNeg, Int.reduceToNat, Int.reduceEq, Int.reduceNe, Int.reduceTDiv, Int.reduceTMod, implies_true, putL, appN, appX, appC, Eng.Fi, reduceCtorEq, exists_eq_left', exists_eq_left, if_true, if_false, List.replicate, Nat.reduceAdd, Nat.reduceSub, Nat.reduceMul, Nat.reduceLeDiff, Nat.reduceLT, Nat.reduceEqDiff]
  exact ⟨⟨[.any, .any, .any, .any, .slice 0 1 0 3, .any, .any, .any, .any, .any, .any, .any, .any, .any, .any, .any, .any, .any, .any, .any, .any, .any, .any, .any, .any, .any, .any, .any, .any, .any, .any, .any, .any, .any, .any, .any, .any, .any, .any, .any, .any, .any, .any, .any, .any, .any, .any, .any], [⟨0, 0, .rows 3 1 [I (-1), I (-1), I (-1)]⟩], 1⟩, Wkn.to ⟨0, [(0, 0)], [], 1, [4]⟩ rfl rfl (by simp [Wk.st, keepT, memN, Wk.fate, Wk.fate0, assoc, getE, Wk.hp, ABlk.sub, sub1, subs]), _, rfl, rfl, rfl, rfl⟩
end Wa
open Go Go.Proofs Eng
set_option maxRecDepth 100000
set_option linter.unusedSimpArgs false
set_option linter.unusedVariables false
namespace Wa
def rpC : List AV → Option (List AV)
  | [.vs [.int .i64 a], .int .i64 n] => if a = -1 ∧ 0 ≤ n ∧ n ≤ 3 then some (List.replicate n.toNat (I (-1))) else none
  | _ => none
theorem lay_Repeat : LayS P 83 3 1 rpC := fun args xs h => by
  unfold rpC at h
  split at h
  · rename_i a n
    split at h
    · rename_i hc
      obtain ⟨rfl, h1, h2⟩ := hc
      have hn : n = 0 ∨ n = 1 ∨ n = 2 ∨ n = 3 := by omega
      have h := Option.some.inj h
      subst h
      refine ⟨?_, rfl, ?_⟩
      · rcases hn with rfl | rfl | rfl | rfl
        · exact l_Repeat_0
        · exact l_Repeat_1
        · exact l_Repeat_2
        · exact l_Repeat_3
      · rcases hn with rfl | rfl | rfl | rfl <;> rfl
    · cases h
  · cases h
def h_rp : List AV → List HEnt → Nat → Option (AV × List HEnt × Nat) := layHs 3 1 rpC
theorem hn_rp : Hn P 83 h_rp := lay_Repeat.hn
theorem y_rp (n : Nat) (h : n ≤ 3) (H : List HEnt) (nx : Nat) : h_rp [.vs [I (-1)], I n] H nx = some (.slice nx 1 0 n, ⟨nx, nx, .rows 3 1 ((List.replicate n (-1)).map eI)⟩ :: H, nx + 1) := by
  have hc : rpC [.vs [I (-1)], I n] = some ((List.replicate n (-1)).map eI) := by
    show (if (-1 : Int) = -1 ∧ 0 ≤ (n : Int) ∧ (n : Int) ≤ 3 then some (List.replicate (n : Int).toNat (I (-1))) else none) = _
    rw [if_pos ⟨rfl, by omega, by omega⟩, Int.toNat_natCast, List.map_replicate]
  have := yS_h hc 3 1 H nx
  rw [List.length_map, List.length_replicate] at this
  exact this
theorem cp_mem (m : List L) (S : List L) : ∀ (l : List L) (x : Option (List L × Int)), (∀ p ∈ l, p ∈ S) → (∀ y, x = some y → ∀ p ∈ y.1, p ∈ S) → ∀ y, l.foldl (cpS m) x = some y → ∀ p ∈ y.1, p ∈ S
  | [], x, _, h, y, hy => h y hy
  | q :: l, x, hl, h, y, hy => by
    refine cp_mem m S l (cpS m x q) (fun p hp => hl p (by simp [hp])) ?_ y hy
    intro z hz
    cases x with
    | none =>
      simp only [cpS, Option.some.injEq] at hz
      subst hz
      intro p hp
      rw [List.mem_singleton.1 hp]; exact hl q (by simp)
    | some w =>
      obtain ⟨l', c⟩ := w
      have hw := h _ rfl
      rw [cpS] at hz
      split at hz
      · cases hz
        intro p hp
        rw [List.mem_singleton.1 hp]; exact hl q (by simp)
      · split at hz
        · cases hz
          intro p hp
          rcases List.mem_append.1 hp with hp | hp
          · exact hw p hp
          · rw [List.mem_singleton.1 hp]; exact hl q (by simp)
        · cases hz; exact hw
theorem ch_mem {m : List L} {p : L} (h : p ∈ (chV m).1) : p ∈ permG m.length m.length [] := by
  obtain ⟨y, hy⟩ := cp_some m (permG m.length m.length []) none (.inl (perm_ne _))
  have hy' : chO m = some y := hy
  rw [chV, hy'] at h
  exact cp_mem m _ _ none (fun _ h => h) (by simp) y hy p h
theorem ch_head {m : List L} : (chV m).1.headD [] ∈ permG m.length m.length [] := by
  refine ch_mem ?_
  have := ch_ne (m := m)
  cases h : (chV m).1 with
  | nil => exact absurd h this
  | cons a l => simp
theorem ch_head_len {m : List L} : ((chV m).1.headD []).length = m.length := (perm_mem (N := m.length) m.length [] (by simp) (by simp) _ ch_head).1
def liG (nb : Nat) (c : Int) : Int := if (nb : Int) ≤ c then -1 else c
def liV (a b : List Vo) (n : Int) : L := if a.length = 0 then [] else (((chV (lkL a b n)).1.headD []).take a.length).map (liG b.length)
def S_li (b : List Vo) (pp : L) (q : Nat × L) : AState := ⟨[.any, .vs (b.map eVo), .any, .any, .any, .any, .any, .any, .any, gA 0 1 (q.2.map eI), .any, .any, .any, .any, .any, .any, .any, .any, .any, .any, .any, .any, .any, .any, .any, .any, .any, .any, .vs (pp.map eI), I pp.length, I q.1, .any, .any, .any, .any, .any, .any, .any, .any, .any, .any, .any, .any, .any], gH 0 3 1 (q.2.map eI), 1⟩
theorem k_costs (a b : List Vo) (n : Int) (h : olE a b n = 0) : FOk P 111 [.vs (a.map eVo), .vs (b.map eVo), I n] (.vs ((lkL a b n).map eL)) := k_costs0 a b n (olE_z h)
def cf_costs : List AV → Option AV
  | [.vs a_v, .vs b_v, .int .i64 n] => onL dVo a_v fun a => onL dVo b_v fun b => if olE a b n = 0 then some (.vs ((lkL a b n).map eL)) else none
  | _ => none
theorem g_costs : Fn P 111 cf_costs := fun args v hh => by
  unfold cf_costs at hh; split at hh
  · obtain ⟨a, rfl, hh1⟩ := onL_inv dVo_inv hh
    obtain ⟨b, rfl, hh2⟩ := onL_inv dVo_inv hh1
    split at hh2
    · rename_i hc; have hk := Option.some.inj hh2; subst hk; exact k_costs _ _ _ hc
    · cases hh2
  · cases hh
theorem x_costs (a : List Vo) (b : List Vo) (n : Int) (hc : (olE a b n = 0) = True) : cf_costs [.vs (a.map eVo), .vs (b.map eVo), .int .i64 n] = some (.vs ((lkL a b n).map eL)) := by
  simp only [cf_costs, onL_map dVo_e]
  exact if_pos (by rw [hc]; trivial)
theorem t28 (l : L) : (l.map eI).take l.length = l.map eI := by rw [List.take_of_length_le]; simp
set_option maxHeartbeats 1000000 in
theorem k_links (a b : List Vo) (n : Int) (h : olE a b n = 0) : FOk P 84 [.vs (a.map eVo), .vs (b.map eVo), I n] (.vs ((liV a b n).map eI)) := by
  have hb := olE_z h
  have ha3 := hb.a.1
  have hb3 := hb.b.1
  have yc := x_costs a b n (by simp only [h])
  by_cases h0 : a.length = 0
  · have h0' : ((a.length : Int) = 0) = True := eq_true (by omega)
    rw [liV, if_pos h0]
    refine c84.fok (by simp only [subs, sub1, free_Vo]) (Cor.run (noC_good _) (noHx_good _) hm ?_)
    simp +contextual -implicitDefEqProofs (maxSteps := 2000000) only [bg_eq, a84, List.length_map, h0', List.map_nil, ruB, rh_no, Int.reduceLT, Int.reduceLE, Int.reduceAdd, Int.reduceSub, Int.reduceMul, Int.reduceNeg, Int.reduceToNat, Int.reduceEq, Int.reduceNe, Int.reduceTDiv, Int.reduceTMod, implies_true, putL, appN, appX, appC, Eng.Fi, reduceCtorEq, exists_eq_left', exists_eq_left, if_true, if_false, List.replicate, Nat.reduceAdd, Nat.reduceSub, Nat.reduceMul, Nat.reduceLeDiff, Nat.reduceLT, Nat.reduceEqDiff]
  · have h0' : ((a.length : Int) = 0) = False := eq_false (by omega)
    have hma := lkL_ok hb (by omega)
    have hcm : (cmV (lkL a b n)).2 = 0 := by rw [cmV_of hma]
    have y2 := x_cheapest (lkL a b n) hcm
    have hne := ch_ne (m := lkL a b n)
    have hhl := ch_head_len (m := lkL a b n)
    have hll : (lkL a b n).length = a.length + b.length := by rw [lkL, lkM_len]
    rw [liV, if_neg h0]
    generalize chV (lkL a b n) = q at *
    obtain ⟨l, c⟩ := q
    simp only at hne hhl y2 ⊢
    cases l with
    | nil => exact absurd rfl hne
    | cons p l =>
      simp only [List.headD_cons] at hhl ⊢
      have hfp := fun φ => free_I φ p
      have hpa : a.length ≤ p.length := by omega
      have q1 : (a.length ≤ p.length) = True := eq_true hpa
      have t1 : (p.map eI).take a.length = (p.take a.length).map eI := by rw [List.map_take]
      have ppl : (p.take a.length).length = a.length := by simp; omega
      have hfl := fun φ => free_L φ (lkL a b n)
      have hfl2 := fun φ => free_L φ l
      refine c84.fok (by simp only [subs, sub1, free_Vo]) (Cor.run (addC_good g_cheapest (addC_good g_costs (noC_good _))) (noHx_good _) hm ?_)
      simp +contextual -implicitDefEqProofs (maxSteps := 2000000) only [bg_eq, a84, List.length_map, h0', yc, y2, List.map_cons, q1, t1, hfl, ppl, ruB, rh_no, Int.reduceLT, Int.reduceLE, Int.reduceAdd, Int.reduceSub, Int.reduceMul, Int.reduceNeg, Int.reduceToNat, Int.reduceEq, Int.reduceNe, Int.reduceTDiv, Int.reduceTMod, implies_true, putL, appN, appX, appC, Eng.Fi, reduceCtorEq, exists_eq_left', exists_eq_left, if_true, if_false, List.replicate, Nat.reduceAdd, Nat.reduceSub, Nat.reduceMul, Nat.reduceLeDiff, Nat.reduceLT, Nat.reduceEqDiff]
      generalize p.take a.length = pp at *
      rw [← ppl]
      refine Cor.lp (addC_good g_cheapest (addC_good g_costs (noC_good _))) (noHx_good _) hm (S_li b pp) (fun q => q.1 ≤ pp.length ∧ q.2 = (pp.take q.1).map (liG b.length)) (fun q => pp.length - q.1) (a := (0, [])) ⟨Nat.zero_le _, rfl⟩ (Wkn.to ⟨0, [], [], 1, [1, 9, 28, 29, 30]⟩ rfl rfl (by simp [Wk.st, keepT, memN, Wk.fate, Wk.fate0, assoc, getE, Wk.hp, ABlk.sub, sub1, subs, free_Vo, free_I, S_li, gA, gH])) ?_
      rintro f ⟨k, o⟩ ⟨hk, ho⟩ go
      simp only at hk ho
      have hol : o.length = k := by rw [ho]; simp; omega
      have hfo := fun φ => free_I φ o
      have m1 : (o.length + 1 ≤ maxLen) = True := mx (by omega)
      have m2 : ((o.length + 1) * 8 ≤ 140737488355328) = True := by simp only [eq_iff_iff, iff_true]; omega
      rcases Nat.lt_or_ge k pp.length with h | h
      · have e1 : decide ((k : Int) < (pp.length : Int)) = true := lt_t h
        have e2 : (pp.map eI)[k]? = some (eI pp[k]) := get_e eI pp h
        have e3 : IntKind.wrap .i64 ((k : Int) + 1) = ((k + 1 : Nat) : Int) := suc_w (by omega)
        have hnext : ∀ x, liG b.length pp[k] = x → o ++ [x] = (pp.take (k + 1)).map (liG b.length) := fun x hx => by rw [List.take_succ_eq_append_getElem h, List.map_append, ho, ← hx]; rfl
        unfold liG at hnext
        generalize pp[k] = x at *
        by_cases hc : (b.length : Int) ≤ x
        · have hc' := eq_true hc
          rw [if_pos hc] at hnext
          cases o with
          | nil =>
            simp only [List.map_cons, List.map_nil, subs, List.cons.injEq] at hfo
            simp only [List.length_nil, List.length_cons, Nat.zero_add] at m1 m2
            simp +contextual -implicitDefEqProofs (maxSteps := 2000000) only [S_li, gA, gH, e1, e2, e3, hc', List.map_cons, List.map_nil, List.length_map, rs_nil, rs_t, rs_f, ag_nils, ag_sl, ag_vs, ag_str, ag_ptr, ag_nilp, ag_vp, ag_fun, m1, m2, ruB, rh_no, Int.reduceLT, Int.reduceLE, Int.reduceAdd, Int.reduceSub, Int.reduceMul, Int.reduceNeg, Int.reduceToNat, Int.reduceEq, Int.reduceNe, Int.reduceTDiv, Int.reduceTMod, implies_true, putL, appN, appX, appC, Eng.Fi, reduceCtorEq, exists_eq_left', exists_eq_left, if_true, if_false, List.replicate, Nat.reduceAdd, Nat.reduceSub, Nat.reduceMul, Nat.reduceLeDiff, Nat.reduceLT, Nat.reduceEqDiff]
            exact go _ (k + 1, [] ++ [-1]) ⟨h, hnext _ rfl⟩ (by simp only; omega) (Wkn.to ⟨0, [(1, 0)], [], 1, [1, 9, 28, 29, 30]⟩ rfl rfl (by simp [Wk.st, keepT, memN, Wk.fate, Wk.fate0, assoc, getE, Wk.hp, ABlk.sub, sub1, subs, free_Vo, free_I, S_li, gA, gH, subs_append, hfo]))
            
          | cons x0 xr =>
            simp only [List.map_cons, List.map_nil, subs, List.cons.injEq] at hfo
            simp only [List.length_nil, List.length_cons, Nat.zero_add] at m1 m2
            simp +contextual -implicitDefEqProofs (maxSteps := 2000000) only [S_li, gA, gH, e1, e2, e3, hc', List.map_cons, List.map_nil, List.length_map, rs_nil, rs_t, rs_f, ag_nils, ag_sl, ag_vs, ag_str, ag_ptr, ag_nilp, ag_vp, ag_fun, m1, m2, ruB, rh_no, Int.reduceLT, Int.reduceLE, Int.reduceAdd, Int.reduceSub, Int.reduceMul, Int.reduceNeg, Int.reduceToNat, Int.reduceEq, Int.reduceNe, Int.reduceTDiv, Int.reduceTMod, implies_true, putL, appN, appX, appC, Eng.Fi, reduceCtorEq, exists_eq_left', exists_eq_left, if_true, if_false, List.replicate, Nat.reduceAdd, Nat.reduceSub, Nat.reduceMul, Nat.reduceLeDiff, Nat.reduceLT, Nat.reduceEqDiff]
            exact go _ (k + 1, (x0 :: xr) ++ [-1]) ⟨h, hnext _ rfl⟩ (by simp only; omega) (Wkn.to ⟨0, [(1, 0)], [], 1, [1, 9, 28, 29, 30]⟩ rfl rfl (by simp [Wk.st, keepT, memN, Wk.fate, Wk.fate0, assoc, getE, Wk.hp, ABlk.sub, sub1, subs, free_Vo, free_I, S_li, gA, gH, subs_append, hfo]))
            
        · have hc' := eq_false hc
          rw [if_neg hc] at hnext
          cases o with
          | nil =>
            simp only [List.map_cons, List.map_nil, subs, List.cons.injEq] at hfo
            simp only [List.length_nil, List.length_cons, Nat.zero_add] at m1 m2
            simp +contextual -implicitDefEqProofs (maxSteps := 2000000) only [S_li, gA, gH, e1, e2, e3, hc', List.map_cons, List.map_nil, List.length_map, rs_nil, rs_t, rs_f, ag_nils, ag_sl, ag_vs, ag_str, ag_ptr, ag_nilp, ag_vp, ag_fun, m1, m2, ruB, rh_no, Int.reduceLT, Int.reduceLE, Int.reduceAdd, Int.reduceSub, Int.reduceMul, Int.reduceNeg, Int.reduceToNat, Int.reduceEq, Int.reduceNe, Int.reduceTDiv, Int.reduceTMod, implies_true, putL, appN, appX, appC, Eng.Fi, reduceCtorEq, exists_eq_left', exists_eq_left, if_true, if_false, List.replicate, Nat.reduceAdd, Nat.reduceSub, Nat.reduceMul, Nat.reduceLeDiff, Nat.reduceLT, Nat.reduceEqDiff]
            exact go _ (k + 1, [] ++ [x]) ⟨h, hnext _ rfl⟩ (by simp only; omega) (Wkn.to ⟨0, [(1, 0)], [], 1, [1, 9, 28, 29, 30]⟩ rfl rfl (by simp [Wk.st, keepT, memN, Wk.fate, Wk.fate0, assoc, getE, Wk.hp, ABlk.sub, sub1, subs, free_Vo, free_I, S_li, gA, gH, subs_append, hfo]))
            
          | cons x0 xr =>
            simp only [List.map_cons, List.map_nil, subs, List.cons.injEq] at hfo
            simp only [List.length_nil, List.length_cons, Nat.zero_add] at m1 m2
            simp +contextual -implicitDefEqProofs (maxSteps := 2000000) only [S_li, gA, gH, e1, e2, e3, hc', List.map_cons, List.map_nil, List.length_map, rs_nil, rs_t, rs_f, ag_nils, ag_sl, ag_vs, ag_str, ag_ptr, ag_nilp, ag_vp, ag_fun, m1, m2, ruB, rh_no, Int.reduceLT, Int.reduceLE, Int.reduceAdd, Int.reduceSub, Int.reduceMul, Int.reduceNeg, Int.reduceToNat, Int.reduceEq, Int.reduceNe, Int.reduceTDiv, Int.reduceTMod, implies_true, putL, appN, appX, appC, Eng.Fi, reduceCtorEq, exists_eq_left', exists_eq_left, if_true, if_false, List.replicate, Nat.reduceAdd, Nat.reduceSub, Nat.reduceMul, Nat.reduceLeDiff, Nat.reduceLT, Nat.reduceEqDiff]
            exact go _ (k + 1, (x0 :: xr) ++ [x]) ⟨h, hnext _ rfl⟩ (by simp only; omega) (Wkn.to ⟨0, [(1, 0)], [], 1, [1, 9, 28, 29, 30]⟩ rfl rfl (by simp [Wk.st, keepT, memN, Wk.fate, Wk.fate0, assoc, getE, Wk.hp, ABlk.sub, sub1, subs, free_Vo, free_I, S_li, gA, gH, subs_append, hfo]))
            
      · have e1 : decide ((k : Int) < (pp.length : Int)) = false := lt_f h
        rw [List.take_of_length_le h] at ho
        rw [← ho]
        cases o with
        | nil =>
          simp only [List.map_cons, List.map_nil, subs, List.cons.injEq] at hfo
          simp +contextual -implicitDefEqProofs (maxSteps := 2000000) only [S_li, gA, gH, e1, List.map_nil, List.map_cons, List.length_map, t28, Nat.le_refl, hfo, ruB, rh_no, Int.reduceLT, Int.reduceLE, Int.reduceAdd, Int.reduceSub, Int.reduceMul, Int.reduceNeg, Int.reduceToNat, Int.reduceEq, Int.reduceNe, Int.reduceTDiv, Int.reduceTMod, implies_true, putL, appN, appX, appC, Eng.Fi, reduceCtorEq, exists_eq_left', exists_eq_left, if_true, if_false, List.replicate, Nat.reduceAdd, Nat.reduceSub, Nat.reduceMul, Nat.reduceLeDiff, Nat.reduceLT, Nat.reduceEqDiff]
          
        | cons x0 xr =>
          simp only [List.map_cons, List.map_nil, subs, List.cons.injEq] at hfo
          simp +contextual -implicitDefEqProofs (maxSteps := 2000000) only [S_li, gA, gH, e1, List.map_nil, List.map_cons, List.length_map, t28, Nat.le_refl, hfo, ruB, rh_no, Int.reduceLT, Int.reduceLE, Int.reduceAdd, Int.reduceSub, Int.reduceMul, Int.reduceNeg, Int.reduceToNat, Int.reduceEq, Int.reduceNe, Int.reduceTDiv, Int.reduceTMod, implies_true, putL, appN, appX, appC, Eng.Fi, reduceCtorEq, exists_eq_left', exists_eq_left, if_true, if_false, List.replicate, Nat.reduceAdd, Nat.reduceSub, Nat.reduceMul, Nat.reduceLeDiff, Nat.reduceLT, Nat.reduceEqDiff]
          
def cf_links : List AV → Option AV
  | [.vs a_v, .vs b_v, .int .i64 n] => onL dVo a_v fun a => onL dVo b_v fun b => if olE a b n = 0 then some (.vs ((liV a b n).map eI)) else none
  | _ => none
theorem g_links : Fn P 84 cf_links := fun args v hh => by
  unfold cf_links at hh; split at hh
  · obtain ⟨a, rfl, hh1⟩ := onL_inv dVo_inv hh
    obtain ⟨b, rfl, hh2⟩ := onL_inv dVo_inv hh1
    split at hh2
    · rename_i hc; have hk := Option.some.inj hh2; subst hk; exact k_links _ _ _ hc
    · cases hh2
  · cases hh
theorem x_links (a : List Vo) (b : List Vo) (n : Int) (hc : (olE a b n = 0) = True) : cf_links [.vs (a.map eVo), .vs (b.map eVo), .int .i64 n] = some (.vs ((liV a b n).map eI)) := by
  simp only [cf_links, onL_map dVo_e]
  exact if_pos (by rw [hc]; trivial)
def lsV (a b : List Vo) (n : Int) : AV := if olE a b n = 0 then .tup [.vs ((liV a b n).map eI), I 0] else .tup [.vs [], I (olE a b n)]
theorem k_LinksOf (a b : List Vo) (n : Int) : FOk P 21 [.vs (a.map eVo), .vs (b.map eVo), I n] (lsV a b n) := by
  have y1 := x_openLinks a b n
  by_cases h : olE a b n = 0
  · rw [lsV, if_pos h]
    have y2 := x_links a b n (by simp only [h])
    refine c21.fok (by simp only [subs, sub1, free_Vo]) (Cor.run (addC_good g_links (addC_good g_openLinks (noC_good _))) (noHx_good _) hm ?_)
    simp +contextual -implicitDefEqProofs (maxSteps := 2000000) only [bg_eq, a21, y1, y2, h, not_true_eq_false, free_I, ruB, rh_no, Int.reduceLT, Int.reduceLE, Int.reduceAdd, Int.reduceSub, Int.reduceMul, Int.reduceNeg, Int.reduceToNat, Int.reduceEq, Int.reduceNe, Int.reduceTDiv, Int.reduceTMod, implies_true, putL, appN, appX, appC, Eng.Fi, reduceCtorEq, exists_eq_left', exists_eq_left, if_true, if_false, List.replicate, Nat.reduceAdd, Nat.reduceSub, Nat.reduceMul, Nat.reduceLeDiff, Nat.reduceLT, Nat.reduceEqDiff]
  · rw [lsV, if_neg h]
    refine c21.fok (by simp only [subs, sub1, free_Vo]) (Cor.run (addC_good g_links (addC_good g_openLinks (noC_good _))) (noHx_good _) hm ?_)
    simp +contextual -implicitDefEqProofs (maxSteps := 2000000) only [bg_eq, a21, y1, h, not_false_eq_true, ruB, rh_no, Int.reduceLT, Int.reduceLE, Int.reduceAdd, Int.reduceSub, Int.reduceMul, Int.reduceNeg, Int.reduceToNat, Int.reduceEq, Int.reduceNe, Int.reduceTDiv, Int.reduceTMod, implies_true, putL, appN, appX, appC, Eng.Fi, reduceCtorEq, exists_eq_left', exists_eq_left, if_true, if_false, List.replicate, Nat.reduceAdd, Nat.reduceSub, Nat.reduceMul, Nat.reduceLeDiff, Nat.reduceLT, Nat.reduceEqDiff]
def cf_LinksOf : List AV → Option AV
  | [.vs a_v, .vs b_v, .int .i64 n] => onL dVo a_v fun a => onL dVo b_v fun b => some (lsV a b n)
  | _ => none
theorem g_LinksOf : Fn P 21 cf_LinksOf := fun args v hh => by
  unfold cf_LinksOf at hh; split at hh
  · obtain ⟨a, rfl, hh1⟩ := onL_inv dVo_inv hh
    obtain ⟨b, rfl, hh2⟩ := onL_inv dVo_inv hh1
    have hk := Option.some.inj hh2; subst hk; exact k_LinksOf _ _ _
  · cases hh
theorem x_LinksOf (a : List Vo) (b : List Vo) (n : Int) : cf_LinksOf [.vs (a.map eVo), .vs (b.map eVo), .int .i64 n] = some (lsV a b n) := by
  simp only [cf_LinksOf, onL_map dVo_e]
end Wa
