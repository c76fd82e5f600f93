import Derived.Test.YtabkbhpeeefmgabEngS9
import Derived.Test.YtabkbhpeeefmgabW903
import Derived.Test.YtabkbhpeeefmgabEngSH
import Derived.Test.YtabkbhpeeefmgabW905
open Go Go.Proofs Eng
set_option maxRecDepth 100000
set_option linter.unusedSimpArgs false
set_option linter.unusedVariables false
def a25 : AC := .seq (.ops false [] [⟨some 4, .p (.mov), [.c (.bool false)], none⟩]) (.seq (.seq (.ops false [] [⟨some 6, .p (.mov), [.t 0], none⟩, ⟨some 7, .p (.lenS), [.t 6], none⟩, ⟨some 8, .p (.mov), [.t 1], none⟩, ⟨some 9, .p (.lenS), [.t 8], none⟩, ⟨some 10, .p (.binI .neq), [.t 7, .t 9], none⟩]) (.cond (.t 10) (.seq (.ops false [] [⟨some 4, .p (.mov), [.c (.bool false)], none⟩]) (.ret)) (.skip))) (.seq (.seq (.ops false [] [⟨some 5, .p (.mov), [.c (.int .i64 0)], none⟩]) (.block 0 (.loop (.seq (.seq (.ops false [] [⟨some 11, .p (.mov), [.t 5], none⟩, ⟨some 12, .p (.mov), [.t 0], none⟩, ⟨some 13, .p (.lenS), [.t 12], none⟩, ⟨some 14, .p (.binI .lss), [.t 11, .t 13], none⟩]) (.cond (.t 14) (.skip) (.exit 0))) (.seq (.block 1 (.seq (.ops true [] [⟨some 17, .p (.mov), [.t 0], none⟩, ⟨some 18, .p (.mov), [.t 5], none⟩, ⟨some 19, .p (.iaddrS 1), [.t 17, .t 18], none⟩, ⟨some 20, .load 1 false, [.t 19], none⟩, ⟨some 21, .p (.mov), [.t 1], none⟩, ⟨some 22, .p (.mov), [.t 5], none⟩, ⟨some 23, .p (.iaddrS 1), [.t 21, .t 22], none⟩, ⟨some 24, .load 1 false, [.t 23], none⟩, ⟨some 25, .p (.binI .neq), [.t 20, .t 24], none⟩]) (.cond (.t 25) (.seq (.ops false [] [⟨some 4, .p (.mov), [.c (.bool false)], none⟩]) (.ret)) (.skip)))) (.ops false [] [⟨some 15, .p (.mov), [.t 5], none⟩, ⟨some 16, .p (.binI .add), [.t 15, .c (.int .i64 1)], none⟩, ⟨some 5, .p (.mov), [.t 16], none⟩])))))) (.seq (.ops false [] [⟨some 4, .p (.mov), [.c (.bool true)], none⟩]) (.ret))))
theorem c25 : FnC Try.prog 25 26 a25 [.tmp 4] := ⟨Try.call25, _, _, Try.func25, rfl, by kernel_rfl, by kernel_rfl, rfl⟩
def a27 : AC := .seq (.ops false [] [⟨some 4, .p (.mov), [.c (.int .i64 0)], none⟩]) (.seq (.ops false [] [⟨some 5, .p (.mov), [.t 0], none⟩, ⟨some 6, .p (.mov), [.t 1], none⟩, ⟨some 7, .p (.binI .rem), [.t 5, .t 6], none⟩, ⟨some 0, .p (.mov), [.t 7], none⟩]) (.seq (.seq (.ops false [] [⟨some 8, .p (.mov), [.t 0], none⟩, ⟨some 9, .p (.binI .lss), [.t 8, .c (.int .i64 0)], none⟩]) (.cond (.t 9) (.ops false [] [⟨some 10, .p (.mov), [.t 0], none⟩, ⟨some 11, .p (.mov), [.t 1], none⟩, ⟨some 12, .p (.binI .add), [.t 10, .t 11], none⟩, ⟨some 0, .p (.mov), [.t 12], none⟩]) (.skip))) (.seq (.ops false [] [⟨some 13, .p (.mov), [.t 0], none⟩, ⟨some 4, .p (.mov), [.t 13], none⟩]) (.ret))))
theorem c27 : FnC Try.prog 27 14 a27 [.tmp 4] := ⟨Try.call27, _, _, Try.func27, rfl, by kernel_rfl, by kernel_rfl, rfl⟩
def a29 : AC := .seq (.ops false [] [⟨some 4, .p (.mov), [.c (.bool false)], none⟩]) (.seq (.seq (.ops false [] [⟨some 5, .p (.mov), [.c (.int .i64 0)], none⟩]) (.block 0 (.loop (.seq (.seq (.ops false [] [⟨some 6, .p (.mov), [.t 5], none⟩, ⟨some 7, .p (.mov), [.t 0], none⟩, ⟨some 8, .p (.lenS), [.t 7], none⟩, ⟨some 9, .p (.binI .lss), [.t 6, .t 8], none⟩]) (.cond (.t 9) (.skip) (.exit 0))) (.seq (.block 1 (.seq (.ops false [] [⟨some 12, .p (.mov), [.t 0], none⟩, ⟨some 13, .p (.mov), [.t 5], none⟩, ⟨some 14, .p (.iaddrS 1), [.t 12, .t 13], none⟩, ⟨some 15, .load 1 false, [.t 14], none⟩, ⟨some 16, .p (.mov), [.t 1], none⟩, ⟨some 17, .p (.binI .eql), [.t 15, .t 16], none⟩]) (.cond (.t 17) (.seq (.ops false [] [⟨some 4, .p (.mov), [.c (.bool true)], none⟩]) (.ret)) (.skip)))) (.ops false [] [⟨some 10, .p (.mov), [.t 5], none⟩, ⟨some 11, .p (.binI .add), [.t 10, .c (.int .i64 1)], none⟩, ⟨some 5, .p (.mov), [.t 11], none⟩])))))) (.seq (.ops false [] [⟨some 4, .p (.mov), [.c (.bool false)], none⟩]) (.ret)))
theorem c29 : FnC Try.prog 29 18 a29 [.tmp 4] := ⟨Try.call29, _, _, Try.func29, rfl, by kernel_rfl, by kernel_rfl, rfl⟩
def a42 : AC := .seq (.ops false [] [⟨some 2, .p (.mov), [.c (.nilslice)], none⟩, ⟨some 3, .p (.mov), [.c (.int .i64 0)], none⟩]) (.seq (.ops false [] [⟨some 7, .p (.mov), [.t 0], none⟩, ⟨some 8, .call 75, [.t 7], none⟩, ⟨some 6, .p (.mov), [.t 8], none⟩, ⟨some 9, .p (.ext 0), [.t 6], none⟩, ⟨some 10, .p (.ext 1), [.t 6], none⟩, ⟨some 4, .p (.mov), [.t 9], none⟩, ⟨some 5, .p (.mov), [.t 10], none⟩]) (.seq (.ops false [] [⟨some 11, .p (.mov), [.t 0], none⟩, ⟨some 12, .p (.mov), [.t 5], none⟩, ⟨some 2, .p (.mov), [.t 11], none⟩, ⟨some 3, .p (.mov), [.t 12], none⟩]) (.ret)))
theorem c42 : FnC Try.prog 42 13 a42 [.tmp 2, .tmp 3] := ⟨Try.call42, _, _, Try.func42, rfl, by kernel_rfl, by kernel_rfl, rfl⟩
def a46 : AC := .seq (.ops false [] [⟨some 4, .p (.mov), [.c (.bool false)], none⟩]) (.seq (.ops false [] [⟨some 5, .p (.mov), [.t 0], none⟩, ⟨some 6, .p (.mov), [.t 1], none⟩, ⟨some 7, .call 76, [.t 5, .t 6], none⟩, ⟨some 8, .p (.binI .geq), [.t 7, .c (.int .i64 0)], none⟩, ⟨some 4, .p (.mov), [.t 8], none⟩]) (.ret))
theorem c46 : FnC Try.prog 46 9 a46 [.tmp 4] := ⟨Try.call46, _, _, Try.func46, rfl, by kernel_rfl, by kernel_rfl, rfl⟩
def a48 : AC := .seq (.ops false [] [⟨some 2, .p (.mov), [.c (.nilslice)], none⟩]) (.seq (.ops false [] [⟨some 3, .bsl 3 1, [], none⟩, ⟨some 4, .p (.mov), [.t 0], none⟩, ⟨some 5, .app 3 1 8, [.t 3, .t 4], none⟩, ⟨some 2, .p (.mov), [.t 5], none⟩]) (.ret))
theorem c48 : FnC Try.prog 48 6 a48 [.tmp 2] := ⟨Try.call48, _, _, Try.func48, rfl, by kernel_rfl, by kernel_rfl, rfl⟩
def a75 : AC := .seq (.ops false [] [⟨some 2, .p (.mov), [.c (.int .i64 0)], none⟩, ⟨some 3, .p (.mov), [.c (.int .i64 0)], none⟩]) (.seq (.ops false [] [⟨some 10, .p (.mov), [.t 0], none⟩, ⟨some 11, .p (.lenS), [.t 10], none⟩, ⟨some 4, .p (.mov), [.t 11], none⟩]) (.seq (.seq (.ops false [] [⟨some 12, .p (.mov), [.t 4], none⟩, ⟨some 13, .p (.binI .gtr), [.t 12, .c (.int .i64 0)], none⟩, ⟨some 14, .call 44, [.t 13, .c (.int .i64 10)], none⟩, ⟨some 15, .p (.mov), [.t 4], none⟩, ⟨some 16, .p (.binI .leq), [.t 15, .c (.int .i64 6)], none⟩, ⟨some 17, .call 44, [.t 16, .c (.int .i64 8)], none⟩, ⟨some 18, .fbs 1, [.t 14, .t 17], none⟩, ⟨some 19, .call 43, [.t 18], none⟩, ⟨some 5, .p (.mov), [.t 19], none⟩]) (.seq (.ops false [] [⟨some 20, .p (.mov), [.t 5], none⟩, ⟨some 21, .p (.binI .neq), [.t 20, .c (.int .i64 0)], none⟩]) (.cond (.t 21) (.seq (.ops false [] [⟨some 22, .p (.mov), [.t 5], none⟩, ⟨some 2, .p (.mov), [.c (.int .i64 0)], none⟩, ⟨some 3, .p (.mov), [.t 22], none⟩]) (.ret)) (.skip)))) (.seq (.seq (.ops false [] [⟨some 23, .p (.mov), [.t 0], none⟩, ⟨some 24, .p (.lenS), [.t 23], none⟩, ⟨some 25, .p (.mov), [.c (.int .i64 0)], none⟩]) (.block 0 (.loop (.seq (.ops false [] [⟨some 26, .p (.binI .lss), [.t 25, .t 24], none⟩]) (.seq (.cond (.t 26) (.skip) (.exit 0)) (.seq (.block 1 (.seq (.ops false [] [⟨some 27, .p (.mov), [.t 25], none⟩, ⟨some 28, .p (.iaddrS 1), [.t 23, .t 25], none⟩, ⟨some 29, .load 1 false, [.t 28], none⟩, ⟨some 6, .p (.mov), [.t 27], none⟩, ⟨some 7, .p (.mov), [.t 29], none⟩]) (.seq (.ops false [] [⟨some 30, .p (.mov), [.t 7], none⟩, ⟨some 31, .call 107, [.t 30, .c (.fn 108 [] [])], none⟩, ⟨some 8, .p (.mov), [.t 31], none⟩]) (.seq (.ops false [] [⟨some 32, .p (.mov), [.t 7], none⟩, ⟨some 33, .p (.lenS), [.t 32], none⟩, ⟨some 34, .p (.mov), [.t 4], none⟩, ⟨some 35, .p (.binI .eql), [.t 33, .t 34], none⟩, ⟨some 36, .call 44, [.t 35, .c (.int .i64 10)], none⟩, ⟨some 37, .p (.mov), [.t 8], none⟩, ⟨some 38, .p (.notB), [.t 37], none⟩, ⟨some 39, .call 44, [.t 38, .c (.int .i64 2)], none⟩, ⟨some 40, .fbs 1, [.t 36, .t 39], none⟩, ⟨some 41, .call 43, [.t 40], none⟩, ⟨some 9, .p (.mov), [.t 41], none⟩]) (.seq (.ops false [] [⟨some 42, .p (.mov), [.t 9], none⟩, ⟨some 43, .p (.binI .neq), [.t 42, .c (.int .i64 0)], none⟩]) (.cond (.t 43) (.seq (.ops false [] [⟨some 44, .p (.mov), [.t 6], none⟩, ⟨some 45, .p (.mov), [.t 9], none⟩, ⟨some 2, .p (.mov), [.t 44], none⟩, ⟨some 3, .p (.mov), [.t 45], none⟩]) (.ret)) (.skip))))))) (.ops false [] [⟨some 46, .p (.binI .add), [.t 25, .c (.int .i64 1)], none⟩, ⟨some 25, .p (.mov), [.t 46], none⟩]))))))) (.seq (.ops false [] [⟨some 2, .p (.mov), [.c (.int .i64 0)], none⟩, ⟨some 3, .p (.mov), [.c (.int .i64 0)], none⟩]) (.ret)))))
theorem c75 : FnC Try.prog 75 47 a75 [.tmp 2, .tmp 3] := ⟨Try.call75, _, _, Try.func75, rfl, by kernel_rfl, by kernel_rfl, rfl⟩
def a76 : AC := .seq (.ops false [] [⟨some 4, .p (.mov), [.c (.int .i64 0)], none⟩]) (.seq (.seq (.ops false [] [⟨some 6, .p (.mov), [.t 0], none⟩, ⟨some 7, .p (.lenS), [.t 6], none⟩, ⟨some 8, .p (.mov), [.c (.int .i64 0)], none⟩]) (.block 0 (.loop (.seq (.ops false [] [⟨some 9, .p (.binI .lss), [.t 8, .t 7], none⟩]) (.seq (.cond (.t 9) (.skip) (.exit 0)) (.seq (.block 1 (.seq (.ops false [] [⟨some 10, .p (.mov), [.t 8], none⟩, ⟨some 5, .p (.mov), [.t 10], none⟩]) (.seq (.ops false [] [⟨some 11, .p (.mov), [.t 1], none⟩, ⟨some 12, .p (.mov), [.t 0], none⟩, ⟨some 13, .p (.mov), [.t 5], none⟩, ⟨some 14, .p (.iaddrS 1), [.t 12, .t 13], none⟩, ⟨some 15, .load 1 false, [.t 14], none⟩, ⟨some 16, .p (.binI .eql), [.t 11, .t 15], none⟩]) (.cond (.t 16) (.seq (.ops false [] [⟨some 17, .p (.mov), [.t 5], none⟩, ⟨some 4, .p (.mov), [.t 17], none⟩]) (.ret)) (.skip))))) (.ops false [] [⟨some 18, .p (.binI .add), [.t 8, .c (.int .i64 1)], none⟩, ⟨some 8, .p (.mov), [.t 18], none⟩]))))))) (.seq (.ops false [] [⟨some 4, .p (.mov), [.c (.int .i64 (-1))], none⟩]) (.ret)))
theorem c76 : FnC Try.prog 76 19 a76 [.tmp 4] := ⟨Try.call76, _, _, Try.func76, rfl, by kernel_rfl, by kernel_rfl, rfl⟩
def a88 : AC := .seq (.ops false [] [⟨some 2, .p (.mov), [.c (.nilslice)], none⟩]) (.seq (.seq (.ops false [] [⟨some 3, .p (.mov), [.t 0], none⟩, ⟨some 4, .p (.eqN false .s), [.t 3, .c (.nilslice)], none⟩]) (.cond (.t 4) (.seq (.ops false [] [⟨some 2, .p (.mov), [.c (.nilslice)], none⟩]) (.ret)) (.skip))) (.seq (.ops false [] [⟨some 5, .bsl 3 1, [], none⟩, ⟨some 6, .p (.mov), [.t 0], none⟩, ⟨some 7, .app 3 1 8, [.t 5, .t 6], none⟩, ⟨some 2, .p (.mov), [.t 7], none⟩]) (.ret)))
theorem c88 : FnC Try.prog 88 8 a88 [.tmp 2] := ⟨Try.call88, _, _, Try.func88, rfl, by kernel_rfl, by kernel_rfl, rfl⟩
def a89 : AC := .seq (.ops false [] [⟨some 2, .p (.mov), [.c (.nilslice)], none⟩]) (.seq (.ops false [] [⟨some 3, .p (.mov), [.t 0], none⟩, ⟨some 4, .p (.mov), [.t 0], none⟩, ⟨some 5, .p (.lenS), [.t 4], none⟩, ⟨some 6, .p (.mov), [.t 0], none⟩, ⟨some 7, .p (.lenS), [.t 6], none⟩, ⟨some 8, .p (.slc 1 false true true), [.t 3, .t 5, .t 7], none⟩, ⟨some 2, .p (.mov), [.t 8], none⟩]) (.ret))
theorem c89 : FnC Try.prog 89 9 a89 [.tmp 2] := ⟨Try.call89, _, _, Try.func89, rfl, by kernel_rfl, by kernel_rfl, rfl⟩
def a107 : AC := .seq (.ops false [] [⟨some 4, .p (.mov), [.c (.bool false)], none⟩]) (.seq (.ops false [] [⟨some 5, .p (.mov), [.t 0], none⟩, ⟨some 6, .p (.mov), [.t 1], none⟩, ⟨some 7, .call 114, [.t 5, .t 6], none⟩, ⟨some 8, .p (.binI .geq), [.t 7, .c (.int .i64 0)], none⟩, ⟨some 4, .p (.mov), [.t 8], none⟩]) (.ret))
theorem c107 : FnC Try.prog 107 9 a107 [.tmp 4] := ⟨Try.call107, _, _, Try.func107, rfl, by kernel_rfl, by kernel_rfl, rfl⟩
def a108 : AC := .seq (.ops false [] [⟨some 2, .p (.mov), [.c (.bool false)], none⟩]) (.seq (.ops false [] [⟨some 3, .p (.mov), [.t 0], none⟩, ⟨some 4, .call 45, [.t 3, .c (.int .i64 0), .c (.int .i64 10000000)], none⟩, ⟨some 5, .p (.notB), [.t 4], none⟩, ⟨some 2, .p (.mov), [.t 5], none⟩]) (.ret))
theorem c108 : FnC Try.prog 108 6 a108 [.tmp 2] := ⟨Try.call108, _, _, Try.func108, rfl, by kernel_rfl, by kernel_rfl, rfl⟩
def a114 : AC := .seq (.ops false [] [⟨some 4, .p (.mov), [.c (.int .i64 0)], none⟩]) (.seq (.seq (.ops false [] [⟨some 6, .p (.mov), [.t 0], none⟩, ⟨some 7, .p (.lenS), [.t 6], none⟩, ⟨some 8, .p (.mov), [.c (.int .i64 0)], none⟩]) (.block 0 (.loop (.seq (.ops false [] [⟨some 9, .p (.binI .lss), [.t 8, .t 7], none⟩]) (.seq (.cond (.t 9) (.skip) (.exit 0)) (.seq (.block 1 (.seq (.ops false [] [⟨some 10, .p (.mov), [.t 8], none⟩, ⟨some 5, .p (.mov), [.t 10], none⟩]) (.seq (.ops false [] [⟨some 11, .p (.mov), [.t 1], none⟩, ⟨some 12, .p (.mov), [.t 0], none⟩, ⟨some 13, .p (.mov), [.t 5], none⟩, ⟨some 14, .p (.iaddrS 1), [.t 12, .t 13], none⟩, ⟨some 15, .load 1 false, [.t 14], none⟩, ⟨some 16, .callv, [.t 11, .t 15], none⟩]) (.cond (.t 16) (.seq (.ops false [] [⟨some 17, .p (.mov), [.t 5], none⟩, ⟨some 4, .p (.mov), [.t 17], none⟩]) (.ret)) (.skip))))) (.ops false [] [⟨some 18, .p (.binI .add), [.t 8, .c (.int .i64 1)], none⟩, ⟨some 8, .p (.mov), [.t 18], none⟩]))))))) (.seq (.ops false [] [⟨some 4, .p (.mov), [.c (.int .i64 (-1))], none⟩]) (.ret)))
theorem c114 : FnC Try.prog 114 19 a114 [.tmp 4] := ⟨Try.call114, _, _, Try.func114, rfl, by kernel_rfl, by kernel_rfl, rfl⟩
namespace Wa
def dI : AV → Option Int
  | .int .i64 n => some n
  | _ => none
theorem dI_e (x : Int) : dI (I x) = some x := rfl
theorem dI_inv (v : AV) (x : Int) (h : dI v = some x) : v = I x := by
  unfold dI at h
  split at h
  · cases h; rfl
  · cases h
def ixG (x : Int) : Nat → List Int → Int
  | _, [] => -1
  | n, y :: r => if x = y then n else ixG x (n + 1) r
theorem ixG_mem (x : Int) : ∀ (l : List Int) (n : Nat), decide (0 ≤ ixG x n l) = decide (x ∈ l)
  | [], n => by simp [ixG]
  | y :: r, n => by
    rw [ixG]
    split
    · rename_i h; simp [h]
    · rename_i h; rw [ixG_mem x r (n + 1)]; simp [h]
def S128 (l : List Int) (x : Int) (n : Nat) : AState := ⟨[.vs (l.map eI), I x, .any, .any, .any, .any, .vs (l.map eI), I l.length, I n, .any, .any, .any, .any, .any, .any, .any, .any, .any, .any], [], 0⟩
theorem k_IndexI (l : List Int) (x : Int) (hl : l.length ≤ 1099511627776) : FOk P 76 [.vs (l.map eI), I x] (I (ixG x 0 l)) := by
  refine c76.fok (by simp only [subs, sub1, free_I]) (Cor.run (noC_good _) (noHx_good _) hm ?_)
  simp +contextual -implicitDefEqProofs (maxSteps := 2000000) only [bg_eq, a76, List.length_map, ruB, rh_no, Int.reduceLT, Int.reduceLE, Int.reduceAdd, Int.reduceSub, Int.reduceMul, Int.reduceNeg, Int.reduceToNat, Int.reduceEq, Int.reduceNe, Int.reduceTDiv, Int.reduceTMod, implies_true, putL, appN, appX, appC, Eng.Fi, reduceCtorEq, exists_eq_left', exists_eq_left, if_true, if_false, List.replicate, Nat.reduceAdd, Nat.reduceSub, Nat.reduceMul, Nat.reduceLeDiff, Nat.reduceLT, Nat.reduceEqDiff]
  refine Cor.lp (noC_good _) (noHx_good _) hm (S128 l x) (fun n => n ≤ l.length ∧ ixG x 0 l = ixG x n (l.drop n)) (fun n => l.length - n) (a := 0) ⟨Nat.zero_le _, rfl⟩ (Wkn.keep [0, 1, 6, 7, 8] rfl) ?_
  intro f n ⟨hn, hf⟩ go
  rcases Nat.lt_or_ge n l.length with h | h
  · have e1 : decide ((n : Int) < (l.length : Int)) = true := lt_t h
    have e2 : (l.map eI)[n]? = some (eI l[n]) := get_e eI l h
    have e3 : IntKind.wrap .i64 ((n : Int) + 1) = ((n + 1 : Nat) : Int) := suc_w (by omega)
    rw [List.drop_eq_getElem_cons h, ixG] at hf
    by_cases hc : x = l[n]
    · rw [if_pos hc] at hf
      rw [hf]
      simp +contextual -implicitDefEqProofs (maxSteps := 2000000) only [S128, e1, e2, e3, hc, ruB, rh_no, Int.reduceLT, Int.reduceLE, Int.reduceAdd, Int.reduceSub, Int.reduceMul, Int.reduceNeg, Int.reduceToNat, Int.reduceEq, Int.reduceNe, Int.reduceTDiv, Int.reduceTMod, implies_true, putL, appN, appX, appC, Eng.Fi, reduceCtorEq, exists_eq_left', exists_eq_left, if_true, if_false, List.replicate, Nat.reduceAdd, Nat.reduceSub, Nat.reduceMul, Nat.reduceLeDiff, Nat.reduceLT, Nat.reduceEqDiff]
    · rw [if_neg hc] at hf
      simp +contextual -implicitDefEqProofs (maxSteps := 2000000) only [S128, e1, e2, e3, hc, ruB, rh_no, Int.reduceLT, Int.reduceLE, Int.reduceAdd, Int.reduceSub, Int.reduceMul, Int.reduceNeg, Int.reduceToNat, Int.reduceEq, Int.reduceNe, Int.reduceTDiv, Int.reduceTMod, implies_true, putL, appN, appX, appC, Eng.Fi, reduceCtorEq, exists_eq_left', exists_eq_left, if_true, if_false, List.replicate, Nat.reduceAdd, Nat.reduceSub, Nat.reduceMul, Nat.reduceLeDiff, Nat.reduceLT, Nat.reduceEqDiff]
      exact go _ (n + 1) ⟨h, hf⟩ (by omega) (Wkn.keep [0, 1, 6, 7, 8] rfl)
  · have e1 : decide ((n : Int) < (l.length : Int)) = false := lt_f h
    rw [List.drop_eq_nil_of_le h] at hf
    rw [hf]
    simp +contextual -implicitDefEqProofs (maxSteps := 2000000) only [S128, e1, ixG, ruB, rh_no, Int.reduceLT, Int.reduceLE, Int.reduceAdd, Int.reduceSub, Int.reduceMul, Int.reduceNeg, Int.reduceToNat, Int.reduceEq, Int.reduceNe, Int.reduceTDiv, Int.reduceTMod, implies_true, putL, appN, appX, appC, Eng.Fi, reduceCtorEq, exists_eq_left', exists_eq_left, if_true, if_false, List.replicate, Nat.reduceAdd, Nat.reduceSub, Nat.reduceMul, Nat.reduceLeDiff, Nat.reduceLT, Nat.reduceEqDiff]
def cf_IndexI : List AV → Option AV
  | [.vs l_v, .int .i64 x] => onL dI l_v fun l => if l.length ≤ 1099511627776 then some (I (ixG x 0 l)) else none
  | _ => none
theorem g_IndexI : Fn P 76 cf_IndexI := fun args v hh => by
  unfold cf_IndexI at hh; split at hh
  · obtain ⟨l, rfl, hh1⟩ := onL_inv dI_inv hh
    split at hh1
    · rename_i hc; have hk := Option.some.inj hh1; subst hk; exact k_IndexI _ _ hc
    · cases hh1
  · cases hh
theorem x_IndexI (l : List Int) (x : Int) (hc : (l.length ≤ 1099511627776) = True) : cf_IndexI [.vs (l.map eI), .int .i64 x] = some (I (ixG x 0 l)) := by
  simp only [cf_IndexI, onL_map dI_e]
  exact if_pos (by rw [hc]; trivial)
theorem k_ContainsI (l : List Int) (x : Int) (hl : l.length ≤ 1099511627776) : FOk P 46 [.vs (l.map eI), I x] (.bool (decide (x ∈ l))) := by
  have y := x_IndexI l x (by simp only [hl])
  rw [← ixG_mem x l 0]
  refine c46.fok (by simp only [subs, sub1, free_I]) (Cor.run (addC_good g_IndexI (noC_good _)) (noHx_good _) hm ?_)
  simp +contextual -implicitDefEqProofs (maxSteps := 2000000) only [bg_eq, a46, y, ruB, rh_no, Int.reduceLT, Int.reduceLE, Int.reduceAdd, Int.reduceSub, Int.reduceMul, Int.reduceNeg, Int.reduceToNat, Int.reduceEq, Int.reduceNe, Int.reduceTDiv, Int.reduceTMod, implies_true, putL, appN, appX, appC, Eng.Fi, reduceCtorEq, exists_eq_left', exists_eq_left, if_true, if_false, List.replicate, Nat.reduceAdd, Nat.reduceSub, Nat.reduceMul, Nat.reduceLeDiff, Nat.reduceLT, Nat.reduceEqDiff]
def cf_ContainsI : List AV → Option AV
  | [.vs l_v, .int .i64 x] => onL dI l_v fun l => if l.length ≤ 1099511627776 then some (.bool (decide (x ∈ l))) else none
  | _ => none
theorem g_ContainsI : Fn P 46 cf_ContainsI := fun args v hh => by
  unfold cf_ContainsI at hh; split at hh
  · obtain ⟨l, rfl, hh1⟩ := onL_inv dI_inv hh
    split at hh1
    · rename_i hc; have hk := Option.some.inj hh1; subst hk; exact k_ContainsI _ _ hc
    · cases hh1
  · cases hh
theorem x_ContainsI (l : List Int) (x : Int) (hc : (l.length ≤ 1099511627776) = True) : cf_ContainsI [.vs (l.map eI), .int .i64 x] = some (.bool (decide (x ∈ l))) := by
  simp only [cf_ContainsI, onL_map dI_e]
  exact if_pos (by rw [hc]; trivial)
theorem k_ClipI (l : List Int) (hl : l.length ≤ 1099511627776) : FOk P 89 [.vs (l.map eI)] (.vx (l.map eI)) := by
  refine c89.fok (by simp only [subs, sub1, free_I]) (Cor.run (noC_good _) (noHx_good _) hm ?_)
  have tk : (l.map eI).take l.length = l.map eI := by rw [List.take_of_length_le]; simp
  simp +contextual -implicitDefEqProofs (maxSteps := 2000000) only [bg_eq, a89, List.length_map, Nat.le_refl, tk, free_I, ruB, rh_no, Int.reduceLT, Int.reduceLE, Int.reduceAdd, Int.reduceSub, Int.reduceMul, Int.reduceNeg, Int.reduceToNat, Int.reduceEq, Int.reduceNe, Int.reduceTDiv, Int.reduceTMod, implies_true, putL, appN, appX, appC, Eng.Fi, reduceCtorEq, exists_eq_left', exists_eq_left, if_true, if_false, List.replicate, Nat.reduceAdd, Nat.reduceSub, Nat.reduceMul, Nat.reduceLeDiff, Nat.reduceLT, Nat.reduceEqDiff]
def cf_ClipI : List AV → Option AV
  | [.vs l_v] => onL dI l_v fun l => if l.length ≤ 1099511627776 then some (.vx (l.map eI)) else none
  | _ => none
theorem g_ClipI : Fn P 89 cf_ClipI := fun args v hh => by
  unfold cf_ClipI at hh; split at hh
  · obtain ⟨l, rfl, hh1⟩ := onL_inv dI_inv hh
    split at hh1
    · rename_i hc; have hk := Option.some.inj hh1; subst hk; exact k_ClipI _ hc
    · cases hh1
  · cases hh
theorem x_ClipI (l : List Int) (hc : (l.length ≤ 1099511627776) = True) : cf_ClipI [.vs (l.map eI)] = some (.vx (l.map eI)) := by
  simp only [cf_ClipI, onL_map dI_e]
  exact if_pos (by rw [hc]; trivial)
theorem k_CloneI (l : List Int) (hl : l ≠ [] ∧ l.length ≤ 1000) : FOk P 88 [.vs (l.map eI)] (.vs (l.map eI)) := by
  obtain ⟨h0, hl⟩ := hl
  refine c88.fok (by simp only [subs, sub1, free_I]) (Cor.run (noC_good _) (noHx_good _) hm ?_)
  cases l with
  | nil => exact absurd rfl h0
  | cons x r =>
    have fr := fun φ => free_I φ r
    have m1 : (r.length + 1 ≤ maxLen) = True := mx (by simp only [List.length_cons] at hl; omega)
    have m2 : ((r.length + 1) * 8 ≤ 140737488355328) = True := by simp only [eq_iff_iff, iff_true]; simp only [List.length_cons] at hl; omega
    have t0 : (r.map eI).length = r.length := by simp
    have t1 : (r.length ≤ (r.map eI).length) = True := by simp
    have t2 : (r.map eI).take r.length = r.map eI := by rw [List.take_of_length_le]; simp
    have al : (r.map eI).all (fun v => decide (v.cells.length = 1)) = true := by simp [List.all_map, AV.cells]
    simp +contextual -implicitDefEqProofs (maxSteps := 2000000) only [bg_eq, a88, List.map_cons, List.length_map, rs_nil, rs_t, rs_f, ag_nils, ag_sl, ag_vs, ag_str, ag_ptr, ag_nilp, ag_vp, ag_fun, m1, m2, t0, t1, t2, fr, Nat.le_refl, al, en_vs, ruB, rh_no, Int.reduceLT, Int.reduceLE, Int.reduceAdd, Int.reduceSub, Int.reduceMul, Int.reduceNeg, Int.reduceToNat, Int.reduceEq, Int.reduceNe, Int.reduceTDiv, Int.reduceTMod, implies_true, putL, appN, appX, appC, Eng.Fi, reduceCtorEq, exists_eq_left', exists_eq_left, if_true, if_false, List.replicate, Nat.reduceAdd, Nat.reduceSub, Nat.reduceMul, Nat.reduceLeDiff, Nat.reduceLT, Nat.reduceEqDiff]
def cf_CloneI : List AV → Option AV
  | [.vs l_v] => onL dI l_v fun l => if l ≠ [] ∧ l.length ≤ 1000 then some (.vs (l.map eI)) else none
  | _ => none
theorem g_CloneI : Fn P 88 cf_CloneI := fun args v hh => by
  unfold cf_CloneI at hh; split at hh
  · obtain ⟨l, rfl, hh1⟩ := onL_inv dI_inv hh
    split at hh1
    · rename_i hc; have hk := Option.some.inj hh1; subst hk; exact k_CloneI _ hc
    · cases hh1
  · cases hh
theorem x_CloneI (l : List Int) (hc : (l ≠ [] ∧ l.length ≤ 1000) = True) : cf_CloneI [.vs (l.map eI)] = some (.vs (l.map eI)) := by
  simp only [cf_CloneI, onL_map dI_e]
  exact if_pos (by rw [hc]; trivial)
def S52 (l m : List Int) (n : Nat) : AState := ⟨[.vs (l.map eI), .vs (m.map eI), .any, .any, .any, I n, .any, .any, .any, .any, .any, .any, .any, .any, .any, .any, .any, .any, .any, .any, .any, .any, .any, .any, .any, .any], [], 0⟩
theorem k_Ints (l m : List Int) (hl : l.length ≤ 1000) : FOk P 25 [.vs (l.map eI), .vs (m.map eI)] (.bool (decide (l = m))) := by
  by_cases hlm : l.length = m.length
  · refine c25.fok (by simp only [subs, sub1, free_I]) (Cor.run (noC_good _) (noHx_good _) hm ?_)
    have h0 : ((l.length : Int) = (m.length : Int)) = True := by simp [hlm]
    simp +contextual -implicitDefEqProofs (maxSteps := 2000000) only [bg_eq, a25, List.length_map, h0, not_true_eq_false, ruB, rh_no, Int.reduceLT, Int.reduceLE, Int.reduceAdd, Int.reduceSub, Int.reduceMul, Int.reduceNeg, Int.reduceToNat, Int.reduceEq, Int.reduceNe, Int.reduceTDiv, Int.reduceTMod, implies_true, putL, appN, appX, appC, Eng.Fi, reduceCtorEq, exists_eq_left', exists_eq_left, if_true, if_false, List.replicate, Nat.reduceAdd, Nat.reduceSub, Nat.reduceMul, Nat.reduceLeDiff, Nat.reduceLT, Nat.reduceEqDiff]
    refine Cor.lp (noC_good _) (noHx_good _) hm (S52 l m) (fun n => n ≤ l.length ∧ l.take n = m.take n) (fun n => l.length - n) (a := 0) ⟨Nat.zero_le _, by simp⟩ (Wkn.keep [0, 1, 5] rfl) ?_
    intro f n ⟨hn, hf⟩ go
    rcases Nat.lt_or_ge n l.length with h | h
    · have e1 : decide ((n : Int) < (l.length : Int)) = true := lt_t h
      have e2 : (l.map eI)[n]? = some (eI l[n]) := get_e eI l h
      have e3 : IntKind.wrap .i64 ((n : Int) + 1) = ((n + 1 : Nat) : Int) := suc_w (by omega)
      have hmn : n < m.length := by omega
      have e4 : (m.map eI)[n]? = some (eI m[n]) := get_e eI m hmn
      by_cases hc : l[n] = m[n]
      · simp +contextual -implicitDefEqProofs (maxSteps := 2000000) only [S52, e1, e2, e3, e4, hc, List.length_map, not_true_eq_false, ruB, rh_no, Int.reduceLT, Int.reduceLE, Int.reduceAdd, Int.reduceSub, Int.reduceMul, Int.reduceNeg, Int.reduceToNat, Int.reduceEq, Int.reduceNe, Int.reduceTDiv, Int.reduceTMod, implies_true, putL, appN, appX, appC, Eng.Fi, reduceCtorEq, exists_eq_left', exists_eq_left, if_true, if_false, List.replicate, Nat.reduceAdd, Nat.reduceSub, Nat.reduceMul, Nat.reduceLeDiff, Nat.reduceLT, Nat.reduceEqDiff]
        refine go _ (n + 1) ⟨h, ?_⟩ (by omega) (Wkn.keep [0, 1, 5] rfl)
        rw [List.take_succ_eq_append_getElem h, List.take_succ_eq_append_getElem hmn, hf, hc]
      · have hne : l ≠ m := fun e => hc (by subst e; rfl)
        rw [decide_eq_false hne]
        simp +contextual -implicitDefEqProofs (maxSteps := 2000000) only [S52, e1, e2, e3, e4, hc, List.length_map, not_false_eq_true, ruB, rh_no, Int.reduceLT, Int.reduceLE, Int.reduceAdd, Int.reduceSub, Int.reduceMul, Int.reduceNeg, Int.reduceToNat, Int.reduceEq, Int.reduceNe, Int.reduceTDiv, Int.reduceTMod, implies_true, putL, appN, appX, appC, Eng.Fi, reduceCtorEq, exists_eq_left', exists_eq_left, if_true, if_false, List.replicate, Nat.reduceAdd, Nat.reduceSub, Nat.reduceMul, Nat.reduceLeDiff, Nat.reduceLT, Nat.reduceEqDiff]
    · have e1 : decide ((n : Int) < (l.length : Int)) = false := lt_f h
      rw [List.take_of_length_le h, List.take_of_length_le (by omega)] at hf
      rw [decide_eq_true hf]
      simp +contextual -implicitDefEqProofs (maxSteps := 2000000) only [S52, e1, List.length_map, ruB, rh_no, Int.reduceLT, Int.reduceLE, Int.reduceAdd, Int.reduceSub, Int.reduceMul, Int.reduceNeg, Int.reduceToNat, Int.reduceEq, Int.reduceNe, Int.reduceTDiv, Int.reduceTMod, implies_true, putL, appN, appX, appC, Eng.Fi, reduceCtorEq, exists_eq_left', exists_eq_left, if_true, if_false, List.replicate, Nat.reduceAdd, Nat.reduceSub, Nat.reduceMul, Nat.reduceLeDiff, Nat.reduceLT, Nat.reduceEqDiff]
  · have hne : l ≠ m := fun e => hlm (by rw [e])
    have h0 : ((l.length : Int) = (m.length : Int)) = False := by simp only [eq_iff_iff, iff_false]; omega
    rw [decide_eq_false hne]
    refine c25.fok (by simp only [subs, sub1, free_I]) (Cor.run (noC_good _) (noHx_good _) hm ?_)
    simp +contextual -implicitDefEqProofs (maxSteps := 2000000) only [bg_eq, a25, List.length_map, h0, not_false_eq_true, ruB, rh_no, Int.reduceLT, Int.reduceLE, Int.reduceAdd, Int.reduceSub, Int.reduceMul, Int.reduceNeg, Int.reduceToNat, Int.reduceEq, Int.reduceNe, Int.reduceTDiv, Int.reduceTMod, implies_true, putL, appN, appX, appC, Eng.Fi, reduceCtorEq, exists_eq_left', exists_eq_left, if_true, if_false, List.replicate, Nat.reduceAdd, Nat.reduceSub, Nat.reduceMul, Nat.reduceLeDiff, Nat.reduceLT, Nat.reduceEqDiff]
def cf_Ints : List AV → Option AV
  | [.vs l_v, .vs m_v] => onL dI l_v fun l => onL dI m_v fun m => if l.length ≤ 1000 then some (.bool (decide (l = m))) else none
  | _ => none
theorem g_Ints : Fn P 25 cf_Ints := fun args v hh => by
  unfold cf_Ints at hh; split at hh
  · obtain ⟨l, rfl, hh1⟩ := onL_inv dI_inv hh
    obtain ⟨m, rfl, hh2⟩ := onL_inv dI_inv hh1
    split at hh2
    · rename_i hc; have hk := Option.some.inj hh2; subst hk; exact k_Ints _ _ hc
    · cases hh2
  · cases hh
theorem x_Ints (l : List Int) (m : List Int) (hc : (l.length ≤ 1000) = True) : cf_Ints [.vs (l.map eI), .vs (m.map eI)] = some (.bool (decide (l = m))) := by
  simp only [cf_Ints, onL_map dI_e]
  exact if_pos (by rw [hc]; trivial)
theorem tm_emod (n b : Int) (hb : 0 < b) : (n.tmod b < 0 → n % b = n.tmod b + b) ∧ (0 ≤ n.tmod b → n % b = n.tmod b) ∧ -b < n.tmod b ∧ n.tmod b < b := by
  have l1 := Int.lt_tmod_of_pos n hb
  have l2 := Int.tmod_lt_of_pos n hb
  have k : n % b = (n.tmod b) % b := by
    conv => lhs; rw [← Int.tmod_add_mul_tdiv n b]
    exact Int.add_mul_emod_self_left _ _ _
  refine ⟨fun h => ?_, fun h => ?_, l1, l2⟩
  · rw [k, ← Int.add_emod_right]; exact Int.emod_eq_of_lt (by omega) (by omega)
  · rw [k]; exact Int.emod_eq_of_lt h l2
theorem k_Mod (n b : Int) (h : 0 < b ∧ b ≤ 4611686018427387904) : FOk P 27 [I n, I b] (I (n % b)) := by
  obtain ⟨h1, h2, h3, h4⟩ := tm_emod n b h.1
  have hb : (b = 0) = False := by simp only [eq_iff_iff, iff_false]; omega
  by_cases hn : n.tmod b < 0
  · rw [h1 hn]
    have w : IntKind.wrap .i64 (n.tmod b + b) = n.tmod b + b := wrap64 (by omega) (by omega)
    refine c27.fok rfl (Cor.run (noC_good _) (noHx_good _) hm ?_)
    simp +contextual -implicitDefEqProofs (maxSteps := 2000000) only [bg_eq, a27, hb, hn, w, ruB, rh_no, Int.reduceLT, Int.reduceLE, Int.reduceAdd, Int.reduceSub, Int.reduceMul, Int.reduceNeg, Int.reduceToNat, Int.reduceEq, Int.reduceNe, Int.reduceTDiv, Int.reduceTMod, implies_true, putL, appN, appX, appC, Eng.Fi, reduceCtorEq, exists_eq_left', exists_eq_left, if_true, if_false, List.replicate, Nat.reduceAdd, Nat.reduceSub, Nat.reduceMul, Nat.reduceLeDiff, Nat.reduceLT, Nat.reduceEqDiff]
  · rw [h2 (by omega)]
    refine c27.fok rfl (Cor.run (noC_good _) (noHx_good _) hm ?_)
    simp +contextual -implicitDefEqProofs (maxSteps := 2000000) only [bg_eq, a27, hb, hn, ruB, rh_no, Int.reduceLT, Int.reduceLE, Int.reduceAdd, Int.reduceSub, Int.reduceMul, Int.reduceNeg, Int.reduceToNat, Int.reduceEq, Int.reduceNe, Int.reduceTDiv, Int.reduceTMod, implies_true, putL, appN, appX, appC, Eng.Fi, reduceCtorEq, exists_eq_left', exists_eq_left, if_true, if_false, List.replicate, Nat.reduceAdd, Nat.reduceSub, Nat.reduceMul, Nat.reduceLeDiff, Nat.reduceLT, Nat.reduceEqDiff]
def cf_Mod : List AV → Option AV
  | [.int .i64 n, .int .i64 b] => if 0 < b ∧ b ≤ 4611686018427387904 then some (I (n % b)) else none
  | _ => none
theorem g_Mod : Fn P 27 cf_Mod := fun args v hh => by
  unfold cf_Mod at hh; split at hh
  · split at hh
    · rename_i hc; have hk := Option.some.inj hh; subst hk; exact k_Mod _ _ hc
    · cases hh
  · cases hh
theorem x_Mod (n : Int) (b : Int) (hc : (0 < b ∧ b ≤ 4611686018427387904) = True) : cf_Mod [.int .i64 n, .int .i64 b] = some (I (n % b)) := by
  exact if_pos (by rw [hc]; trivial)
theorem k_CopyInts (l : List Int) (hl : l.length ≤ 1000) : FOk P 48 [.vs (l.map eI)] (.vs (l.map eI)) := by
  have m1 : (l.length ≤ maxLen) = True := mx (by omega)
  have m2 : (l.length * 8 ≤ 140737488355328) = True := by simp only [eq_iff_iff, iff_true]; omega
  have m3 : (l.map eI).all (fun v => decide (v.cells.length = 1)) = true := by simp [List.all_map, AV.cells]
  refine c48.fok (by simp only [subs, sub1, free_I]) (Cor.run (noC_good _) (noHx_good _) hm ?_)
  simp +contextual -implicitDefEqProofs (maxSteps := 2000000) only [bg_eq, a48, List.length_map, m1, m2, m3, ruB, rh_no, Int.reduceLT, Int.reduceLE, Int.reduceAdd, Int.reduceSub, Int.reduceMul, Int.reduceNeg, Int.reduceToNat, Int.reduceEq, Int.reduceNe, Int.reduceTDiv, Int.reduceTMod, implies_true, putL, appN, appX, appC, Eng.Fi, reduceCtorEq, exists_eq_left', exists_eq_left, if_true, if_false, List.replicate, Nat.reduceAdd, Nat.reduceSub, Nat.reduceMul, Nat.reduceLeDiff, Nat.reduceLT, Nat.reduceEqDiff]
  have t1 : (l.map eI).take l.length = l.map eI := by rw [List.take_of_length_le]; simp
  simp [free_I, t1]
def cf_CopyInts : List AV → Option AV
  | [.vs l_v] => onL dI l_v fun l => if l.length ≤ 1000 then some (.vs (l.map eI)) else none
  | _ => none
theorem g_CopyInts : Fn P 48 cf_CopyInts := fun args v hh => by
  unfold cf_CopyInts at hh; split at hh
  · obtain ⟨l, rfl, hh1⟩ := onL_inv dI_inv hh
    split at hh1
    · rename_i hc; have hk := Option.some.inj hh1; subst hk; exact k_CopyInts _ hc
    · cases hh1
  · cases hh
theorem x_CopyInts (l : List Int) (hc : (l.length ≤ 1000) = True) : cf_CopyInts [.vs (l.map eI)] = some (.vs (l.map eI)) := by
  simp only [cf_CopyInts, onL_map dI_e]
  exact if_pos (by rw [hc]; trivial)
/-- a number is among them -/
def S112 (l : List Int) (x : Int) (n : Nat) : AState := ⟨[.vs (l.map eI), I x, .any, .any, .any, I n, .any, .any, .any, .any, .any, .any, .any, .any, .any, .any, .any, .any], [], 0⟩
theorem k_Has (l : List Int) (x : Int) (hl : l.length ≤ 1000) : FOk P 29 [.vs (l.map eI), I x] (.bool (decide (x ∈ l))) := by
  refine c29.fok (by simp only [subs, sub1, free_I]) (Cor.run (noC_good _) (noHx_good _) hm ?_)
  simp +contextual -implicitDefEqProofs (maxSteps := 2000000) only [bg_eq, a29, List.length_map, ruB, rh_no, Int.reduceLT, Int.reduceLE, Int.reduceAdd, Int.reduceSub, Int.reduceMul, Int.reduceNeg, Int.reduceToNat, Int.reduceEq, Int.reduceNe, Int.reduceTDiv, Int.reduceTMod, implies_true, putL, appN, appX, appC, Eng.Fi, reduceCtorEq, exists_eq_left', exists_eq_left, if_true, if_false, List.replicate, Nat.reduceAdd, Nat.reduceSub, Nat.reduceMul, Nat.reduceLeDiff, Nat.reduceLT, Nat.reduceEqDiff]
  refine Cor.lp (noC_good _) (noHx_good _) hm (S112 l x) (fun n => n ≤ l.length ∧ decide (x ∈ l) = decide (x ∈ l.drop n)) (fun n => l.length - n) (a := 0) ⟨Nat.zero_le _, rfl⟩ (Wkn.keep [0, 1, 5] rfl) ?_
  rintro f n ⟨hn, hf⟩ go
  rcases Nat.lt_or_ge n l.length with hlt | hlt
  · have e1 : decide ((n : Int) < (l.length : Int)) = true := lt_t hlt
    have e2 : (l.map eI)[n]? = some (eI l[n]) := get_e eI l hlt
    have e3 : IntKind.wrap .i64 ((n : Int) + 1) = ((n + 1 : Nat) : Int) := suc_w (by omega)
    rw [List.drop_eq_getElem_cons hlt] at hf
    generalize l[n] = v at *
    by_cases hv : v = x
    · have hv' : (v = x) = True := eq_true hv
      have : decide (x ∈ v :: l.drop (n + 1)) = true := decide_eq_true (by simp [hv])
      rw [this] at hf
      simp +contextual -implicitDefEqProofs (maxSteps := 2000000) only [S112, e1, e2, hv', hf, List.length_map, ruB, rh_no, Int.reduceLT, Int.reduceLE, Int.reduceAdd, Int.reduceSub, Int.reduceMul, Int.reduceNeg, Int.reduceToNat, Int.reduceEq, Int.reduceNe, Int.reduceTDiv, Int.reduceTMod, implies_true, putL, appN, appX, appC, Eng.Fi, reduceCtorEq, exists_eq_left', exists_eq_left, if_true, if_false, List.replicate, Nat.reduceAdd, Nat.reduceSub, Nat.reduceMul, Nat.reduceLeDiff, Nat.reduceLT, Nat.reduceEqDiff]
    · have hv' : (v = x) = False := eq_false hv
      have : decide (x ∈ v :: l.drop (n + 1)) = decide (x ∈ l.drop (n + 1)) := decide_eq_decide.2 ⟨fun h => (List.mem_cons.1 h).elim (fun e => absurd e.symm hv) (fun h => h), fun h => List.mem_cons_of_mem _ h⟩
      rw [this] at hf
      simp +contextual -implicitDefEqProofs (maxSteps := 2000000) only [S112, e1, e2, e3, hv', List.length_map, ruB, rh_no, Int.reduceLT, Int.reduceLE, Int.reduceAdd, Int.reduceSub, Int.reduceMul, Int.reduceNeg, Int.reduceToNat, Int.reduceEq, Int.reduceNe, Int.reduceTDiv, Int.reduceTMod, implies_true, putL, appN, appX, appC, Eng.Fi, reduceCtorEq, exists_eq_left', exists_eq_left, if_true, if_false, List.replicate, Nat.reduceAdd, Nat.reduceSub, Nat.reduceMul, Nat.reduceLeDiff, Nat.reduceLT, Nat.reduceEqDiff]
      exact go _ (n + 1) ⟨hlt, hf⟩ (by omega) (Wkn.keep [0, 1, 5] rfl)
  · have e1 : decide ((n : Int) < (l.length : Int)) = false := lt_f hlt
    rw [List.drop_eq_nil_of_le hlt] at hf
    have : decide (x ∈ ([] : List Int)) = false := decide_eq_false (by simp)
    rw [this] at hf
    simp +contextual -implicitDefEqProofs (maxSteps := 2000000) only [S112, e1, hf, List.length_map, ruB, rh_no, Int.reduceLT, Int.reduceLE, Int.reduceAdd, Int.reduceSub, Int.reduceMul, Int.reduceNeg, Int.reduceToNat, Int.reduceEq, Int.reduceNe, Int.reduceTDiv, Int.reduceTMod, implies_true, putL, appN, appX, appC, Eng.Fi, reduceCtorEq, exists_eq_left', exists_eq_left, if_true, if_false, List.replicate, Nat.reduceAdd, Nat.reduceSub, Nat.reduceMul, Nat.reduceLeDiff, Nat.reduceLT, Nat.reduceEqDiff]
def cf_Has : List AV → Option AV
  | [.vs l_v, .int .i64 x] => onL dI l_v fun l => if l.length ≤ 1000 then some (.bool (decide (x ∈ l))) else none
  | _ => none
theorem g_Has : Fn P 29 cf_Has := fun args v hh => by
  unfold cf_Has at hh; split at hh
  · obtain ⟨l, rfl, hh1⟩ := onL_inv dI_inv hh
    split at hh1
    · rename_i hc; have hk := Option.some.inj hh1; subst hk; exact k_Has _ _ hc
    · cases hh1
  · cases hh
theorem x_Has (l : List Int) (x : Int) (hc : (l.length ≤ 1000) = True) : cf_Has [.vs (l.map eI), .int .i64 x] = some (.bool (decide (x ∈ l))) := by
  simp only [cf_Has, onL_map dI_e]
  exact if_pos (by rw [hc]; trivial)
end Wa
open Go Go.Proofs Eng
set_option maxRecDepth 100000
set_option linter.unusedSimpArgs false
set_option linter.unusedVariables false
namespace Wa
abbrev L := List Int
abbrev eL (l : L) : AV := .vs (l.map eI)
def dL : AV → Option L
  | .vs us => decL decI us
  | _ => none
theorem dL_e (l : L) : dL (eL l) = some l := decL_map decI eI decI_I l
theorem dL_inv (v : AV) (l : L) (h : dL v = some l) : v = eL l := by
  unfold dL at h
  split at h
  · rw [decL_inv decI eI (fun v x => decI_inv) h]
  · cases h
theorem eL_inj (a b : L) (h : eL a = eL b) : a = b := map_inj (e := eI) (fun a b hab => by simpa using hab) _ _ (AV.vs.inj h)
theorem free_L1 (φ : Nat → Fate) (l : L) : sub1 φ (eL l) = eL l := by simp only [sub1, free_I]
theorem free_L (φ : Nat → Fate) (m : List L) : subs φ (m.map eL) = m.map eL := subs_mapE φ _ (free_L1 φ) m
def badN (x : Int) : Prop := ¬ (0 ≤ x ∧ x ≤ 10000000)
instance (x : Int) : Decidable (badN x) := by unfold badN; infer_instance
def badP (l : L) : Prop := ∃ x ∈ l, badN x
instance (l : L) : Decidable (badP l) := by unfold badP; infer_instance
theorem k_CheckMatrix1 (x : Int) : FOk P 108 [I x] (.bool (decide (badN x))) := by
  refine c108.fok rfl (Cor.run (addC_good g_within (noC_good _)) (noHx_good _) hm ?_)
  simp +contextual -implicitDefEqProofs (maxSteps := 2000000) only [bg_eq, a108, x_within, badN, ruB, rh_no, Int.reduceLT, Int.reduceLE, Int.reduceAdd, Int.reduceSub, Int.reduceMul, Int.reduceNeg, Int.reduceToNat, Int.reduceEq, Int.reduceNe, Int.reduceTDiv, Int.reduceTMod, implies_true, putL, appN, appX, appC, Eng.Fi, reduceCtorEq, exists_eq_left', exists_eq_left, if_true, if_false, List.replicate, Nat.reduceAdd, Nat.reduceSub, Nat.reduceMul, Nat.reduceLeDiff, Nat.reduceLT, Nat.reduceEqDiff]
def cf_CheckMatrix1 : List AV → Option AV
  | [.int .i64 x] => some (.bool (decide (badN x)))
  | _ => none
theorem g_CheckMatrix1 : Fn P 108 cf_CheckMatrix1 := fun args v h => by
  unfold cf_CheckMatrix1 at h; split at h
  · have h := Option.some.inj h; subst h; exact k_CheckMatrix1 _
  · cases h
theorem x_CheckMatrix1 (x : Int) : cf_CheckMatrix1 [.int .i64 x] = some (.bool (decide (badN x))) := rfl
def ifG : Nat → L → Int
  | _, [] => -1
  | n, y :: r => if badN y then n else ifG (n + 1) r
theorem ifG_bad : ∀ (l : L) (n : Nat), decide (0 ≤ ifG n l) = decide (badP l)
  | [], n => by simp [ifG, badP]
  | y :: r, n => by
    rw [ifG]
    split
    · rename_i h
      have : badP (y :: r) := ⟨y, by simp, h⟩
      simp [this]
    · rename_i h
      rw [ifG_bad r (n + 1)]
      exact decide_eq_decide.2 ⟨fun ⟨x, hx, hb⟩ => ⟨x, by simp [hx], hb⟩, fun ⟨x, hx, hb⟩ => by
        rcases List.mem_cons.1 hx with rfl | hx
        · exact absurd hb h
        · exact ⟨x, hx, hb⟩⟩
def S_ifI (l : L) (n : Nat) : AState := ⟨[.vs (l.map eI), .fn 108 [] [], .any, .any, .any, .any, .vs (l.map eI), I l.length, I n, .any, .any, .any, .any, .any, .any, .any, .any, .any, .any], [], 0⟩
theorem k_IndexFuncI (l : L) (hl : l.length ≤ 1099511627776) : FOk P 114 [.vs (l.map eI), .fn 108 [] []] (I (ifG 0 l)) := by
  refine c114.fok (by simp only [subs, sub1, free_I]) (Cor.run (addC_good g_CheckMatrix1 (noC_good _)) (noHx_good _) hm ?_)
  simp +contextual -implicitDefEqProofs (maxSteps := 2000000) only [bg_eq, a114, List.length_map, ruB, rh_no, Int.reduceLT, Int.reduceLE, Int.reduceAdd, Int.reduceSub, Int.reduceMul, Int.reduceNeg, Int.reduceToNat, Int.reduceEq, Int.reduceNe, Int.reduceTDiv, Int.reduceTMod, implies_true, putL, appN, appX, appC, Eng.Fi, reduceCtorEq, exists_eq_left', exists_eq_left, if_true, if_false, List.replicate, Nat.reduceAdd, Nat.reduceSub, Nat.reduceMul, Nat.reduceLeDiff, Nat.reduceLT, Nat.reduceEqDiff]
  refine Cor.lp (addC_good g_CheckMatrix1 (noC_good _)) (noHx_good _) hm (S_ifI l) (fun n => n ≤ l.length ∧ ifG 0 l = ifG n (l.drop n)) (fun n => l.length - n) (a := 0) ⟨Nat.zero_le _, rfl⟩ (Wkn.keep [0, 1, 6, 7, 8] rfl) ?_
  intro f n ⟨hn, hf⟩ go
  rcases Nat.lt_or_ge n l.length with h | h
  · have e1 : decide ((n : Int) < (l.length : Int)) = true := lt_t h
    have e2 : (l.map eI)[n]? = some (eI l[n]) := get_e eI l h
    have e3 : IntKind.wrap .i64 ((n : Int) + 1) = ((n + 1 : Nat) : Int) := suc_w (by omega)
    have y := x_CheckMatrix1 l[n]
    rw [List.drop_eq_getElem_cons h, ifG] at hf
    by_cases hc : badN l[n]
    · rw [if_pos hc] at hf
      simp +contextual -implicitDefEqProofs (maxSteps := 2000000) only [S_ifI, e1, e2, e3, y, hc, ruB, rh_no, Int.reduceLT, Int.reduceLE, Int.reduceAdd, Int.reduceSub, Int.reduceMul, Int.reduceNeg, Int.reduceToNat, Int.reduceEq, Int.reduceNe, Int.reduceTDiv, Int.reduceTMod, implies_true, putL, appN, appX, appC, Eng.Fi, reduceCtorEq, exists_eq_left', exists_eq_left, if_true, if_false, List.replicate, Nat.reduceAdd, Nat.reduceSub, Nat.reduceMul, Nat.reduceLeDiff, Nat.reduceLT, Nat.reduceEqDiff]
      rw [hf]
    · rw [if_neg hc] at hf
      simp +contextual -implicitDefEqProofs (maxSteps := 2000000) only [S_ifI, e1, e2, e3, y, hc, ruB, rh_no, Int.reduceLT, Int.reduceLE, Int.reduceAdd, Int.reduceSub, Int.reduceMul, Int.reduceNeg, Int.reduceToNat, Int.reduceEq, Int.reduceNe, Int.reduceTDiv, Int.reduceTMod, implies_true, putL, appN, appX, appC, Eng.Fi, reduceCtorEq, exists_eq_left', exists_eq_left, if_true, if_false, List.replicate, Nat.reduceAdd, Nat.reduceSub, Nat.reduceMul, Nat.reduceLeDiff, Nat.reduceLT, Nat.reduceEqDiff]
      exact go _ (n + 1) ⟨h, hf⟩ (by omega) (Wkn.keep [0, 1, 6, 7, 8] rfl)
  · have e1 : decide ((n : Int) < (l.length : Int)) = false := lt_f h
    rw [List.drop_eq_nil_of_le h] at hf
    simp +contextual -implicitDefEqProofs (maxSteps := 2000000) only [S_ifI, e1, ruB, rh_no, Int.reduceLT, Int.reduceLE, Int.reduceAdd, Int.reduceSub, Int.reduceMul, Int.reduceNeg, Int.reduceToNat, Int.reduceEq, Int.reduceNe, Int.reduceTDiv, Int.reduceTMod, implies_true, putL, appN, appX, appC, Eng.Fi, reduceCtorEq, exists_eq_left', exists_eq_left, if_true, if_false, List.replicate, Nat.reduceAdd, Nat.reduceSub, Nat.reduceMul, Nat.reduceLeDiff, Nat.reduceLT, Nat.reduceEqDiff]
    rw [hf]; rfl
def cf_IndexFuncI : List AV → Option AV
  | [.vs l_v, .fn 108 [] []] => onL dI l_v fun l => if l.length ≤ 1099511627776 then some (I (ifG 0 l)) else none
  | _ => none
theorem g_IndexFuncI : Fn P 114 cf_IndexFuncI := fun args v hh => by
  unfold cf_IndexFuncI at hh; split at hh
  · obtain ⟨l, rfl, hh1⟩ := onL_inv dI_inv hh
    split at hh1
    · rename_i hc; have hk := Option.some.inj hh1; subst hk; exact k_IndexFuncI _ hc
    · cases hh1
  · cases hh
theorem x_IndexFuncI (l : List Int) (hc : (l.length ≤ 1099511627776) = True) : cf_IndexFuncI [.vs (l.map eI), .fn 108 [] []] = some (I (ifG 0 l)) := by
  simp only [cf_IndexFuncI, onL_map dI_e]
  exact if_pos (by rw [hc]; trivial)
theorem k_ContainsFuncI (l : L) (hl : l.length ≤ 1099511627776) : FOk P 107 [.vs (l.map eI), .fn 108 [] []] (.bool (decide (badP l))) := by
  have y := x_IndexFuncI l (by simp only [hl])
  rw [← ifG_bad l 0]
  refine c107.fok (by simp only [subs, sub1, free_I]) (Cor.run (addC_good g_IndexFuncI (noC_good _)) (noHx_good _) hm ?_)
  simp +contextual -implicitDefEqProofs (maxSteps := 2000000) only [bg_eq, a107, y, ruB, rh_no, Int.reduceLT, Int.reduceLE, Int.reduceAdd, Int.reduceSub, Int.reduceMul, Int.reduceNeg, Int.reduceToNat, Int.reduceEq, Int.reduceNe, Int.reduceTDiv, Int.reduceTMod, implies_true, putL, appN, appX, appC, Eng.Fi, reduceCtorEq, exists_eq_left', exists_eq_left, if_true, if_false, List.replicate, Nat.reduceAdd, Nat.reduceSub, Nat.reduceMul, Nat.reduceLeDiff, Nat.reduceLT, Nat.reduceEqDiff]
def cf_ContainsFuncI : List AV → Option AV
  | [.vs l_v, .fn 108 [] []] => onL dI l_v fun l => if l.length ≤ 1099511627776 then some (.bool (decide (badP l))) else none
  | _ => none
theorem g_ContainsFuncI : Fn P 107 cf_ContainsFuncI := fun args v hh => by
  unfold cf_ContainsFuncI at hh; split at hh
  · obtain ⟨l, rfl, hh1⟩ := onL_inv dI_inv hh
    split at hh1
    · rename_i hc; have hk := Option.some.inj hh1; subst hk; exact k_ContainsFuncI _ hc
    · cases hh1
  · cases hh
theorem x_ContainsFuncI (l : List Int) (hc : (l.length ≤ 1099511627776) = True) : cf_ContainsFuncI [.vs (l.map eI), .fn 108 [] []] = some (.bool (decide (badP l))) := by
  simp only [cf_ContainsFuncI, onL_map dI_e]
  exact if_pos (by rw [hc]; trivial)
def roE (n : Nat) (r : L) : Int := firstE [unl ((r.length : Int) = (n : Int)) 10, unl (¬ badP r) 2]
def cmG (n : Nat) : Nat → List L → Int × Int
  | _, [] => (0, 0)
  | i, r :: rs => if roE n r = 0 then cmG n (i + 1) rs else ((i : Int), roE n r)
def cmE (m : List L) : Int := firstE [unl (0 < (m.length : Int)) 10, unl ((m.length : Int) ≤ 6) 8]
def cmV (m : List L) : Int × Int := if cmE m = 0 then cmG m.length 0 m else (0, cmE m)
def S_cm (m : List L) (k : Nat) : AState := ⟨[.any, .any, .any, .any, I m.length, .any, .any, .any, .any, .any, .any, .any, .any, .any, .any, .any, .any, .any, .any, .any, .any, .any, .any, .vs (m.map eL), I m.length, I k, .any, .any, .any, .any, .any, .any, .any, .any, .any, .any, .any, .any, .any, .any, .any, .any, .any, .any, .any, .any, .any], [], 0⟩
theorem k_CheckMatrix (m : List L) (hm' : m.length ≤ 1099511627776 ∧ ∀ r ∈ m, r.length ≤ 1099511627776) : FOk P 75 [.vs (m.map eL)] (.tup [I (cmV m).1, I (cmV m).2]) := by
  obtain ⟨hl, hr⟩ := hm'
  by_cases h0 : cmE m = 0
  · rw [cmV, if_pos h0]
    unfold cmE at h0
    refine c75.fok (by simp only [subs, sub1, free_L]) (Cor.run (addC_good g_ContainsFuncI (addC_good g_first (addC_good g_unless (noC_good _)))) (noHx_good _) hm ?_)
    simp +contextual -implicitDefEqProofs (maxSteps := 2000000) only [bg_eq, a75, List.length_map, x_unless, x_first, y_first, h0, not_true_eq_false, ruB, rh_no, Int.reduceLT, Int.reduceLE, Int.reduceAdd, Int.reduceSub, Int.reduceMul, Int.reduceNeg, Int.reduceToNat, Int.reduceEq, Int.reduceNe, Int.reduceTDiv, Int.reduceTMod, implies_true, putL, appN, appX, appC, Eng.Fi, reduceCtorEq, exists_eq_left', exists_eq_left, if_true, if_false, List.replicate, Nat.reduceAdd, Nat.reduceSub, Nat.reduceMul, Nat.reduceLeDiff, Nat.reduceLT, Nat.reduceEqDiff]
    refine Cor.lp (addC_good g_ContainsFuncI (addC_good g_first (addC_good g_unless (noC_good _)))) (noHx_good _) hm (S_cm m) (fun k => k ≤ m.length ∧ cmG m.length 0 m = cmG m.length k (m.drop k)) (fun k => m.length - k) (a := 0) ⟨Nat.zero_le _, rfl⟩ (Wkn.keep [4, 23, 24, 25] rfl) ?_
    intro f k ⟨hk, hf⟩ go
    rcases Nat.lt_or_ge k m.length with h | h
    · have e1 : decide ((k : Int) < (m.length : Int)) = true := lt_t h
      have e2 : (m.map eL)[k]? = some (eL m[k]) := get_e eL m h
      have e3 : IntKind.wrap .i64 ((k : Int) + 1) = ((k + 1 : Nat) : Int) := suc_w (by omega)
      have hrk := hr m[k] (by simp)
      rw [List.drop_eq_getElem_cons h, cmG] at hf
      generalize m[k] = r at *
      have y := x_ContainsFuncI r (by simp only [hrk])
      by_cases c1 : roE m.length r = 0
      · rw [if_pos c1] at hf
        unfold roE at c1
        simp +contextual -implicitDefEqProofs (maxSteps := 2000000) only [S_cm, e1, e2, e3, y, x_unless, x_first, y_first, List.length_map, c1, not_true_eq_false, ruB, rh_no, Int.reduceLT, Int.reduceLE, Int.reduceAdd, Int.reduceSub, Int.reduceMul, Int.reduceNeg, Int.reduceToNat, Int.reduceEq, Int.reduceNe, Int.reduceTDiv, Int.reduceTMod, implies_true, putL, appN, appX, appC, Eng.Fi, reduceCtorEq, exists_eq_left', exists_eq_left, if_true, if_false, List.replicate, Nat.reduceAdd, Nat.reduceSub, Nat.reduceMul, Nat.reduceLeDiff, Nat.reduceLT, Nat.reduceEqDiff]
        exact go _ (k + 1) ⟨h, hf⟩ (by omega) (Wkn.keep [4, 23, 24, 25] rfl)
      · rw [if_neg c1] at hf
        rw [hf]
        unfold roE at c1 ⊢
        simp +contextual -implicitDefEqProofs (maxSteps := 2000000) only [S_cm, e1, e2, e3, y, x_unless, x_first, y_first, List.length_map, c1, not_false_eq_true, ruB, rh_no, Int.reduceLT, Int.reduceLE, Int.reduceAdd, Int.reduceSub, Int.reduceMul, Int.reduceNeg, Int.reduceToNat, Int.reduceEq, Int.reduceNe, Int.reduceTDiv, Int.reduceTMod, implies_true, putL, appN, appX, appC, Eng.Fi, reduceCtorEq, exists_eq_left', exists_eq_left, if_true, if_false, List.replicate, Nat.reduceAdd, Nat.reduceSub, Nat.reduceMul, Nat.reduceLeDiff, Nat.reduceLT, Nat.reduceEqDiff]
    · have e1 : decide ((k : Int) < (m.length : Int)) = false := lt_f h
      rw [List.drop_eq_nil_of_le h, cmG] at hf
      rw [hf]
      simp +contextual -implicitDefEqProofs (maxSteps := 2000000) only [S_cm, e1, ruB, rh_no, Int.reduceLT, Int.reduceLE, Int.reduceAdd, Int.reduceSub, Int.reduceMul, Int.reduceNeg, Int.reduceToNat, Int.reduceEq, Int.reduceNe, Int.reduceTDiv, Int.reduceTMod, implies_true, putL, appN, appX, appC, Eng.Fi, reduceCtorEq, exists_eq_left', exists_eq_left, if_true, if_false, List.replicate, Nat.reduceAdd, Nat.reduceSub, Nat.reduceMul, Nat.reduceLeDiff, Nat.reduceLT, Nat.reduceEqDiff]
  · rw [cmV, if_neg h0]
    unfold cmE at h0 ⊢
    refine c75.fok (by simp only [subs, sub1, free_L]) (Cor.run (addC_good g_ContainsFuncI (addC_good g_first (addC_good g_unless (noC_good _)))) (noHx_good _) hm ?_)
    simp +contextual -implicitDefEqProofs (maxSteps := 2000000) only [bg_eq, a75, List.length_map, x_unless, x_first, y_first, h0, not_false_eq_true, ruB, rh_no, Int.reduceLT, Int.reduceLE, Int.reduceAdd, Int.reduceSub, Int.reduceMul, Int.reduceNeg, Int.reduceToNat, Int.reduceEq, Int.reduceNe, Int.reduceTDiv, Int.reduceTMod, implies_true, putL, appN, appX, appC, Eng.Fi, reduceCtorEq, exists_eq_left', exists_eq_left, if_true, if_false, List.replicate, Nat.reduceAdd, Nat.reduceSub, Nat.reduceMul, Nat.reduceLeDiff, Nat.reduceLT, Nat.reduceEqDiff]
def cf_CheckMatrix : List AV → Option AV
  | [.vs m_v] => onL dL m_v fun m => if m.length ≤ 1099511627776 ∧ ∀ r ∈ m, r.length ≤ 1099511627776 then some (.tup [I (cmV m).1, I (cmV m).2]) else none
  | _ => none
theorem g_CheckMatrix : Fn P 75 cf_CheckMatrix := fun args v hh => by
  unfold cf_CheckMatrix at hh; split at hh
  · obtain ⟨m, rfl, hh1⟩ := onL_inv dL_inv hh
    split at hh1
    · rename_i hc; have hk := Option.some.inj hh1; subst hk; exact k_CheckMatrix _ hc
    · cases hh1
  · cases hh
theorem x_CheckMatrix (m : List L) (hc : (m.length ≤ 1099511627776 ∧ ∀ r ∈ m, r.length ≤ 1099511627776) = True) : cf_CheckMatrix [.vs (m.map eL)] = some (.tup [I (cmV m).1, I (cmV m).2]) := by
  simp only [cf_CheckMatrix, onL_map dL_e]
  exact if_pos (by rw [hc]; trivial)
theorem k_open (m : List L) (h : m.length ≤ 1099511627776 ∧ ∀ r ∈ m, r.length ≤ 1099511627776) : FOk P 42 [.vs (m.map eL)] (.tup [.vs (m.map eL), I (cmV m).2]) := by
  have y := x_CheckMatrix m (by simp only [eq_iff_iff, iff_true]; exact h)
  refine c42.fok (by simp only [subs, sub1, free_L]) (Cor.run (addC_good g_CheckMatrix (noC_good _)) (noHx_good _) hm ?_)
  simp +contextual -implicitDefEqProofs (maxSteps := 2000000) only [bg_eq, a42, y, free_L, ruB, rh_no, Int.reduceLT, Int.reduceLE, Int.reduceAdd, Int.reduceSub, Int.reduceMul, Int.reduceNeg, Int.reduceToNat, Int.reduceEq, Int.reduceNe, Int.reduceTDiv, Int.reduceTMod, implies_true, putL, appN, appX, appC, Eng.Fi, reduceCtorEq, exists_eq_left', exists_eq_left, if_true, if_false, List.replicate, Nat.reduceAdd, Nat.reduceSub, Nat.reduceMul, Nat.reduceLeDiff, Nat.reduceLT, Nat.reduceEqDiff]
def cf_open : List AV → Option AV
  | [.vs m_v] => onL dL m_v fun m => if m.length ≤ 1099511627776 ∧ ∀ r ∈ m, r.length ≤ 1099511627776 then some (.tup [.vs (m.map eL), I (cmV m).2]) else none
  | _ => none
theorem g_open : Fn P 42 cf_open := fun args v hh => by
  unfold cf_open at hh; split at hh
  · obtain ⟨m, rfl, hh1⟩ := onL_inv dL_inv hh
    split at hh1
    · rename_i hc; have hk := Option.some.inj hh1; subst hk; exact k_open _ hc
    · cases hh1
  · cases hh
theorem x_open (m : List L) (hc : (m.length ≤ 1099511627776 ∧ ∀ r ∈ m, r.length ≤ 1099511627776) = True) : cf_open [.vs (m.map eL)] = some (.tup [.vs (m.map eL), I (cmV m).2]) := by
  simp only [cf_open, onL_map dL_e]
  exact if_pos (by rw [hc]; trivial)
/-- a matrix without an error -/
structure maR (m : List L) : Prop where
  n : 0 < m.length ∧ m.length ≤ 6
  r : ∀ r ∈ m, r.length = m.length ∧ ∀ x ∈ r, 0 ≤ x ∧ x ≤ 10000000
theorem roE_z {n : Nat} {r : L} (h : roE n r = 0) : r.length = n ∧ ∀ x ∈ r, 0 ≤ x ∧ x ≤ 10000000 := by
  have z := firstE_zero h
  have a1 := unl_zero (z (unl ((r.length : Int) = (n : Int)) 10) (by simp)) (by decide)
  have a2 := unl_zero (z (unl (¬ badP r) 2) (by simp)) (by decide)
  refine ⟨by omega, fun x hx => Decidable.byContradiction fun hb => a2 ⟨x, hx, hb⟩⟩
theorem cmG_z {n : Nat} : ∀ {l : List L} {i : Nat}, (cmG n i l).2 = 0 → ∀ r ∈ l, r.length = n ∧ ∀ x ∈ r, 0 ≤ x ∧ x ≤ 10000000
  | [], _, _, r, h => by simp at h
  | y :: l, i, h, r, hr => by
    rw [cmG] at h
    split at h
    · rename_i hy
      rcases List.mem_cons.1 hr with rfl | hr
      · exact roE_z hy
      · exact cmG_z h r hr
    · rename_i hy; exact absurd h hy
theorem cmV_z {m : List L} (h : (cmV m).2 = 0) : maR m := by
  unfold cmV at h
  split at h
  · rename_i h0
    have z := firstE_zero h0
    have a1 := unl_zero (z (unl (0 < (m.length : Int)) 10) (by simp)) (by decide)
    have a2 := unl_zero (z (unl ((m.length : Int) ≤ 6) 8) (by simp)) (by decide)
    exact ⟨by omega, cmG_z h⟩
  · rename_i h0; exact absurd h h0
theorem roE_of {n : Nat} {r : L} (h : r.length = n ∧ ∀ x ∈ r, 0 ≤ x ∧ x ≤ 10000000) : roE n r = 0 := by
  refine firstE_all fun e he => ?_
  simp only [List.mem_cons, List.not_mem_nil, or_false] at he
  rcases he with rfl | rfl
  · exact unl_t _ (by omega)
  · exact unl_t _ fun ⟨x, hx, hb⟩ => hb (h.2 x hx)
theorem cmG_of {n : Nat} : ∀ {l : List L} {i : Nat}, (∀ r ∈ l, r.length = n ∧ ∀ x ∈ r, 0 ≤ x ∧ x ≤ 10000000) → cmG n i l = (0, 0)
  | [], _, _ => rfl
  | y :: l, i, h => by
    rw [cmG, if_pos (roE_of (h y (by simp)))]
    exact cmG_of fun r hr => h r (by simp [hr])
theorem cmV_of {m : List L} (h : maR m) : cmV m = (0, 0) := by
  have h0 : cmE m = 0 := by
    have := h.n
    refine firstE_all fun e he => ?_
    simp only [List.mem_cons, List.not_mem_nil, or_false] at he
    rcases he with rfl | rfl
    · exact unl_t _ (by omega)
    · exact unl_t _ (by omega)
  rw [cmV, if_pos h0]
  exact cmG_of h.r
end Wa
