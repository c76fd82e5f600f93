import Derived.Test.YtjfhhaaogcgkpaaEngS9
import Derived.Test.YtjfhhaaogcgkpaaC1
open Go Go.Proofs Eng
set_option maxRecDepth 100000
set_option linter.unusedSimpArgs false
set_option linter.unusedVariables false
def a16 : AC := .seq (.ops false [] [⟨some 1, .box 24 1 7 true, [.t 0], none⟩, ⟨some 2, .alloc 23 4 [.agg [.int .i64 0, .int .i64 0, .int .i64 0, .int .i64 0]], [], none⟩, ⟨some 3, .p (.mov), [.c (.int .i64 0)], none⟩]) (.seq (.seq (.ops false [] [⟨some 8, .load 7 true, [.t 1], none⟩, ⟨some 9, .p (.mov), [.c (.int .i64 0)], none⟩]) (.block 0 (.loop (.seq (.ops false [] [⟨some 10, .p (.binI .lss), [.t 9, .c (.int .i64 7)], none⟩]) (.seq (.cond (.t 10) (.skip) (.exit 0)) (.seq (.block 1 (.seq (.ops false [] [⟨some 11, .p (.idxA 7 1 false), [.t 8, .t 9], none⟩, ⟨some 5, .p (.mov), [.t 11], none⟩]) (.seq (.ops false [] [⟨some 12, .p (.mov), [.t 5], none⟩, ⟨some 13, .call 83, [.t 12], none⟩, ⟨some 14, .p (.notB), [.t 13], none⟩]) (.cond (.t 14) (.seq (.ops false [] [⟨some 15, .p (.build [.int .i64 0, .int .i64 0, .int .i64 0, .int .i64 0] []), [], none⟩, ⟨none, .store 4 true, [.t 2, .t 15], none⟩, ⟨some 3, .p (.mov), [.c (.int .i64 2)], none⟩]) (.ret)) (.skip))))) (.ops false [] [⟨some 16, .p (.binI .add), [.t 9, .c (.int .i64 1)], none⟩, ⟨some 9, .p (.mov), [.t 16], none⟩]))))))) (.seq (.ops false [] [⟨some 17, .p (.iaddrA 7 1), [.t 1, .c (.int .i64 0)], none⟩, ⟨some 18, .load 1 false, [.t 17], none⟩, ⟨some 19, .p (.iaddrA 7 1), [.t 1, .c (.int .i64 1)], none⟩, ⟨some 20, .load 1 false, [.t 19], none⟩, ⟨some 21, .p (.binI .mul), [.t 20, .c (.int .i64 251)], none⟩, ⟨some 22, .p (.iaddrA 7 1), [.t 1, .c (.int .i64 2)], none⟩, ⟨some 23, .load 1 false, [.t 22], none⟩, ⟨some 24, .p (.binI .add), [.t 21, .t 23], none⟩, ⟨some 25, .p (.iaddrA 7 1), [.t 1, .c (.int .i64 3)], none⟩, ⟨some 26, .load 1 false, [.t 25], none⟩, ⟨some 27, .p (.iaddrA 7 1), [.t 1, .c (.int .i64 4)], none⟩, ⟨some 28, .load 1 false, [.t 27], none⟩, ⟨some 29, .p (.binI .mul), [.t 28, .c (.int .i64 251)], none⟩, ⟨some 30, .p (.iaddrA 7 1), [.t 1, .c (.int .i64 5)], none⟩, ⟨some 31, .load 1 false, [.t 30], none⟩, ⟨some 32, .p (.binI .add), [.t 29, .t 31], none⟩, ⟨some 33, .p (.build [.int .i64 0, .int .i64 0, .int .i64 0, .int .i64 0] [(0, 1), (1, 1), (2, 1), (3, 1)]), [.t 18, .t 24, .t 26, .t 32], none⟩, ⟨some 6, .alloc 23 4 [.agg [.int .i64 0, .int .i64 0, .int .i64 0, .int .i64 0]], [], none⟩, ⟨none, .store 4 true, [.t 6, .t 33], none⟩]) (.seq (.seq (.ops true [] [⟨some 34, .load 7 true, [.t 1], none⟩, ⟨some 35, .call 82, [.t 34], none⟩, ⟨some 36, .p (.binI .rem), [.t 35, .c (.int .i64 251)], none⟩, ⟨some 37, .p (.binI .eql), [.t 36, .c (.int .i64 0)], none⟩, ⟨some 38, .call 85, [.t 37, .c (.int .i64 17)], none⟩, ⟨some 39, .load 4 true, [.t 6], none⟩, ⟨some 40, .call 81, [.t 39], none⟩, ⟨some 41, .fbs 1, [.t 38, .t 40], none⟩, ⟨some 42, .call 84, [.t 41], none⟩, ⟨some 7, .p (.mov), [.t 42], none⟩]) (.seq (.ops false [] [⟨some 43, .p (.mov), [.t 7], none⟩, ⟨some 44, .p (.binI .neq), [.t 43, .c (.int .i64 0)], none⟩]) (.cond (.t 44) (.seq (.ops false [] [⟨some 45, .p (.build [.int .i64 0, .int .i64 0, .int .i64 0, .int .i64 0] []), [], none⟩, ⟨some 46, .p (.mov), [.t 7], none⟩, ⟨none, .store 4 true, [.t 2, .t 45], none⟩, ⟨some 3, .p (.mov), [.t 46], none⟩]) (.ret)) (.skip)))) (.seq (.ops false [] [⟨some 47, .load 4 true, [.t 6], none⟩, ⟨none, .store 4 true, [.t 2, .t 47], none⟩, ⟨some 3, .p (.mov), [.c (.int .i64 0)], none⟩]) (.ret)))))
theorem c16 : FnC Try.prog 16 48 a16 [.cell 2 4 true, .tmp 3] := ⟨Try.call16, _, _, Try.func16, rfl, by kernel_rfl, by kernel_rfl, rfl⟩
def a17 : AC := .seq (.ops false [] [⟨some 1, .box 23 4 1 true, [.t 0], none⟩, ⟨some 2, .p (.mov), [.c (.int .i64 0)], none⟩]) (.seq (.seq (.ops false [] [⟨some 3, .p (.faddr 0), [.t 1], none⟩, ⟨some 4, .load 1 false, [.t 3], none⟩, ⟨some 5, .call 33, [.t 4, .c (.int .i64 0), .c (.int .i64 250)], none⟩, ⟨some 6, .p (.notB), [.t 5], none⟩, ⟨some 7, .p (.mov), [.t 6], none⟩, ⟨some 8, .p (.faddr 1), [.t 1], some (7, false)⟩, ⟨some 9, .load 1 false, [.t 8], some (7, false)⟩, ⟨some 10, .call 33, [.t 9, .c (.int .i64 0), .c (.int .i64 62500)], some (7, false)⟩, ⟨some 11, .p (.notB), [.t 10], some (7, false)⟩, ⟨some 12, .p (.pick), [.t 7, .c (.bool true), .t 11], none⟩, ⟨some 13, .p (.mov), [.t 12], none⟩, ⟨some 14, .p (.faddr 3), [.t 1], some (13, false)⟩, ⟨some 15, .load 1 false, [.t 14], some (13, false)⟩, ⟨some 16, .call 33, [.t 15, .c (.int .i64 0), .c (.int .i64 62500)], some (13, false)⟩, ⟨some 17, .p (.notB), [.t 16], some (13, false)⟩, ⟨some 18, .p (.pick), [.t 13, .c (.bool true), .t 17], none⟩, ⟨some 19, .p (.mov), [.t 18], none⟩, ⟨some 20, .p (.faddr 2), [.t 1], some (19, false)⟩, ⟨some 21, .load 1 false, [.t 20], some (19, false)⟩, ⟨some 22, .call 33, [.t 21, .c (.int .i64 0), .c (.int .i64 2)], some (19, false)⟩, ⟨some 23, .p (.notB), [.t 22], some (19, false)⟩, ⟨some 24, .p (.pick), [.t 19, .c (.bool true), .t 23], none⟩]) (.cond (.t 24) (.seq (.ops false [] [⟨some 2, .p (.mov), [.c (.int .i64 2)], none⟩]) (.ret)) (.skip))) (.seq (.ops false [] [⟨some 2, .p (.mov), [.c (.int .i64 0)], none⟩]) (.ret)))
theorem c17 : FnC Try.prog 17 25 a17 [.tmp 2] := ⟨Try.call17, _, _, Try.func17, rfl, by kernel_rfl, by kernel_rfl, rfl⟩
def a19 : AC := .seq (.ops false [] [⟨some 1, .box 24 1 7 true, [.t 0], none⟩, ⟨some 2, .alloc 23 4 [.agg [.int .i64 0, .int .i64 0, .int .i64 0, .int .i64 0]], [], none⟩, ⟨some 3, .p (.mov), [.c (.int .i64 0)], none⟩]) (.seq (.seq (.ops false [] [⟨some 4, .p (.mov), [.c (.int .i64 0)], none⟩]) (.block 0 (.loop (.seq (.seq (.ops false [] [⟨some 7, .p (.mov), [.t 4], none⟩, ⟨some 8, .p (.binI .lss), [.t 7, .c (.int .i64 7)], none⟩]) (.cond (.t 8) (.skip) (.exit 0))) (.seq (.block 1 (.seq (.ops false [] [⟨some 11, .p (.mov), [.t 4], none⟩, ⟨some 12, .p (.iaddrA 7 1), [.t 1, .t 11], none⟩, ⟨some 13, .load 1 false, [.t 12], none⟩, ⟨some 14, .call 33, [.t 13, .c (.int .i64 0), .c (.int .i64 250)], none⟩, ⟨some 15, .p (.notB), [.t 14], none⟩]) (.cond (.t 15) (.seq (.ops false [] [⟨some 16, .p (.build [.int .i64 0, .int .i64 0, .int .i64 0, .int .i64 0] []), [], none⟩, ⟨none, .store 4 true, [.t 2, .t 16], none⟩, ⟨some 3, .p (.mov), [.c (.int .i64 2)], none⟩]) (.ret)) (.skip)))) (.ops false [] [⟨some 9, .p (.mov), [.t 4], none⟩, ⟨some 10, .p (.binI .add), [.t 9, .c (.int .i64 1)], none⟩, ⟨some 4, .p (.mov), [.t 10], none⟩])))))) (.seq (.seq (.ops false [] [⟨some 17, .load 7 true, [.t 1], none⟩, ⟨some 18, .call 86, [.t 17], none⟩, ⟨some 19, .p (.binI .rem), [.t 18, .c (.int .i64 251)], none⟩, ⟨some 20, .p (.binI .neq), [.t 19, .c (.int .i64 0)], none⟩]) (.cond (.t 20) (.seq (.ops false [] [⟨some 21, .p (.build [.int .i64 0, .int .i64 0, .int .i64 0, .int .i64 0] []), [], none⟩, ⟨none, .store 4 true, [.t 2, .t 21], none⟩, ⟨some 3, .p (.mov), [.c (.int .i64 17)], none⟩]) (.ret)) (.skip))) (.seq (.ops false [] [⟨some 22, .p (.iaddrA 7 1), [.t 1, .c (.int .i64 0)], none⟩, ⟨some 23, .load 1 false, [.t 22], none⟩, ⟨some 24, .p (.iaddrA 7 1), [.t 1, .c (.int .i64 1)], none⟩, ⟨some 25, .load 1 false, [.t 24], none⟩, ⟨some 26, .p (.binI .mul), [.t 25, .c (.int .i64 251)], none⟩, ⟨some 27, .p (.iaddrA 7 1), [.t 1, .c (.int .i64 2)], none⟩, ⟨some 28, .load 1 false, [.t 27], none⟩, ⟨some 29, .p (.binI .add), [.t 26, .t 28], none⟩, ⟨some 30, .p (.iaddrA 7 1), [.t 1, .c (.int .i64 3)], none⟩, ⟨some 31, .load 1 false, [.t 30], none⟩, ⟨some 32, .p (.iaddrA 7 1), [.t 1, .c (.int .i64 4)], none⟩, ⟨some 33, .load 1 false, [.t 32], none⟩, ⟨some 34, .p (.binI .mul), [.t 33, .c (.int .i64 251)], none⟩, ⟨some 35, .p (.iaddrA 7 1), [.t 1, .c (.int .i64 5)], none⟩, ⟨some 36, .load 1 false, [.t 35], none⟩, ⟨some 37, .p (.binI .add), [.t 34, .t 36], none⟩, ⟨some 38, .p (.build [.int .i64 0, .int .i64 0, .int .i64 0, .int .i64 0] [(0, 1), (1, 1), (2, 1), (3, 1)]), [.t 23, .t 29, .t 31, .t 37], none⟩, ⟨some 5, .alloc 23 4 [.agg [.int .i64 0, .int .i64 0, .int .i64 0, .int .i64 0]], [], none⟩, ⟨none, .store 4 true, [.t 5, .t 38], none⟩]) (.seq (.seq (.ops false [] [⟨some 39, .load 4 true, [.t 5], none⟩, ⟨some 40, .call 17, [.t 39], none⟩, ⟨some 6, .p (.mov), [.t 40], none⟩]) (.seq (.ops false [] [⟨some 41, .p (.mov), [.t 6], none⟩, ⟨some 42, .p (.binI .neq), [.t 41, .c (.int .i64 0)], none⟩]) (.cond (.t 42) (.seq (.ops false [] [⟨some 43, .p (.build [.int .i64 0, .int .i64 0, .int .i64 0, .int .i64 0] []), [], none⟩, ⟨some 44, .p (.mov), [.t 6], none⟩, ⟨none, .store 4 true, [.t 2, .t 43], none⟩, ⟨some 3, .p (.mov), [.t 44], none⟩]) (.ret)) (.skip)))) (.seq (.ops false [] [⟨some 45, .load 4 true, [.t 5], none⟩, ⟨none, .store 4 true, [.t 2, .t 45], none⟩, ⟨some 3, .p (.mov), [.c (.int .i64 0)], none⟩]) (.ret))))))
theorem c19 : FnC Try.prog 19 46 a19 [.cell 2 4 true, .tmp 3] := ⟨Try.call19, _, _, Try.func19, rfl, by kernel_rfl, by kernel_rfl, rfl⟩
def a33 : AC := .seq (.ops false [] [⟨some 6, .p (.mov), [.c (.bool false)], none⟩]) (.seq (.ops false [] [⟨some 7, .p (.mov), [.t 1], none⟩, ⟨some 8, .p (.mov), [.t 0], none⟩, ⟨some 9, .p (.binI .leq), [.t 7, .t 8], none⟩, ⟨some 10, .p (.mov), [.t 9], none⟩, ⟨some 11, .p (.mov), [.t 0], some (10, true)⟩, ⟨some 12, .p (.mov), [.t 2], some (10, true)⟩, ⟨some 13, .p (.binI .leq), [.t 11, .t 12], some (10, true)⟩, ⟨some 14, .p (.pick), [.t 10, .t 13, .c (.bool false)], none⟩, ⟨some 6, .p (.mov), [.t 14], none⟩]) (.ret))
theorem c33 : FnC Try.prog 33 15 a33 [.tmp 6] := ⟨Try.call33, _, _, Try.func33, rfl, by kernel_rfl, by kernel_rfl, rfl⟩
def a82 : AC := .seq (.ops false [] [⟨some 1, .box 24 1 7 true, [.t 0], none⟩, ⟨some 2, .p (.mov), [.c (.int .i64 0)], none⟩]) (.seq (.ops false [] [⟨some 3, .p (.mov), [.c (.int .i64 0)], none⟩]) (.seq (.seq (.ops false [] [⟨some 6, .load 7 true, [.t 1], none⟩, ⟨some 7, .p (.mov), [.c (.int .i64 0)], none⟩]) (.block 0 (.loop (.seq (.ops false [] [⟨some 8, .p (.binI .lss), [.t 7, .c (.int .i64 7)], none⟩]) (.seq (.cond (.t 8) (.skip) (.exit 0)) (.seq (.block 1 (.seq (.ops false [] [⟨some 9, .p (.mov), [.t 7], none⟩, ⟨some 10, .p (.idxA 7 1 false), [.t 6, .t 7], none⟩, ⟨some 4, .p (.mov), [.t 9], none⟩, ⟨some 5, .p (.mov), [.t 10], none⟩]) (.ops false [] [⟨some 11, .p (.mov), [.t 3], none⟩, ⟨some 12, .p (.mov), [.t 4], none⟩, ⟨some 13, .p (.binI .add), [.t 12, .c (.int .i64 1)], none⟩, ⟨some 14, .p (.mov), [.t 5], none⟩, ⟨some 15, .p (.binI .mul), [.t 13, .t 14], none⟩, ⟨some 16, .p (.binI .add), [.t 11, .t 15], none⟩, ⟨some 3, .p (.mov), [.t 16], none⟩]))) (.ops false [] [⟨some 17, .p (.binI .add), [.t 7, .c (.int .i64 1)], none⟩, ⟨some 7, .p (.mov), [.t 17], none⟩]))))))) (.seq (.ops false [] [⟨some 18, .p (.mov), [.t 3], none⟩, ⟨some 2, .p (.mov), [.t 18], none⟩]) (.ret))))
theorem c82 : FnC Try.prog 82 19 a82 [.tmp 2] := ⟨Try.call82, _, _, Try.func82, rfl, by kernel_rfl, by kernel_rfl, rfl⟩
def a86 : AC := .seq (.ops false [] [⟨some 1, .box 24 1 7 true, [.t 0], none⟩, ⟨some 2, .p (.mov), [.c (.int .i64 0)], none⟩]) (.seq (.ops false [] [⟨some 3, .p (.mov), [.c (.int .i64 0)], none⟩]) (.seq (.seq (.ops false [] [⟨some 4, .p (.mov), [.c (.int .i64 0)], none⟩]) (.block 0 (.loop (.seq (.seq (.ops false [] [⟨some 5, .p (.mov), [.t 4], none⟩, ⟨some 6, .p (.binI .lss), [.t 5, .c (.int .i64 7)], none⟩]) (.cond (.t 6) (.skip) (.exit 0))) (.seq (.block 1 (.ops false [] [⟨some 9, .p (.mov), [.t 3], none⟩, ⟨some 10, .p (.mov), [.t 4], none⟩, ⟨some 11, .p (.binI .add), [.t 10, .c (.int .i64 1)], none⟩, ⟨some 12, .p (.mov), [.t 4], none⟩, ⟨some 13, .p (.iaddrA 7 1), [.t 1, .t 12], none⟩, ⟨some 14, .load 1 false, [.t 13], none⟩, ⟨some 15, .p (.binI .mul), [.t 11, .t 14], none⟩, ⟨some 16, .p (.binI .add), [.t 9, .t 15], none⟩, ⟨some 3, .p (.mov), [.t 16], none⟩])) (.ops false [] [⟨some 7, .p (.mov), [.t 4], none⟩, ⟨some 8, .p (.binI .add), [.t 7, .c (.int .i64 1)], none⟩, ⟨some 4, .p (.mov), [.t 8], none⟩])))))) (.seq (.ops false [] [⟨some 17, .p (.mov), [.t 3], none⟩, ⟨some 2, .p (.mov), [.t 17], none⟩]) (.ret))))
theorem c86 : FnC Try.prog 86 18 a86 [.tmp 2] := ⟨Try.call86, _, _, Try.func86, rfl, by kernel_rfl, by kernel_rfl, rfl⟩
namespace Sh

/-! weigh, sum -/
def ws7 (a b c d e f g : Int) : Int := a + 2 * b + 3 * c + 4 * d + 5 * e + 6 * f + 7 * g
def isW (a : Int) : Bool := decide (0 ≤ a) && decide (a ≤ 250)
def W7 (a b c d e f g : Int) : Bool := isW a && isW b && isW c && isW d && isW e && isW f && isW g
theorem W7_iff {a b c d e f g : Int} (h : W7 a b c d e f g = true) : (0 ≤ a ∧ a ≤ 250) ∧ (0 ≤ b ∧ b ≤ 250) ∧ (0 ≤ c ∧ c ≤ 250) ∧ (0 ≤ d ∧ d ≤ 250) ∧ (0 ≤ e ∧ e ≤ 250) ∧ (0 ≤ f ∧ f ≤ 250) ∧ (0 ≤ g ∧ g ≤ 250) := by
  simpa [W7, isW, and_assoc] using h

theorem k82 (a b c d e f g : Int) (h : W7 a b c d e f g = true) : FOk P 82 [.agg [I a, I b, I c, I d, I e, I f, I g]] (I (ws7 a b c d e f g)) := by
  have h := W7_iff h
  refine c82.fok rfl (Cor.run (noC_good _) (noHx_good _) hm ?_)
  simp +contextual -implicitDefEqProofs (maxSteps := 2000000) only [bg_eq, a82, ruB, rh_no, Int.reduceLT, Int.reduceLE, Int.reduceAdd, Int.reduceSub, Int.reduceMul, Int.reduceNeg, Int.reduceToNat, Int.reduceEq, Int.reduceNe, Int.reduceTDiv, Int.reduceTMod, implies_true, putL, appN, appX, appC, Eng.Fi, reduceCtorEq, exists_eq_left', exists_eq_left, if_true, if_false, List.replicate, Nat.reduceAdd, Nat.reduceSub, Nat.reduceMul, Nat.reduceLeDiff, Nat.reduceLT, Nat.reduceEqDiff]
  refine Cor.rounds (noC_good _) (noHx_good _) hm 8 ?_
  simp +contextual -implicitDefEqProofs (maxSteps := 2000000) only [ruB, rh_no, Int.reduceLT, Int.reduceLE, Int.reduceAdd, Int.reduceSub, Int.reduceMul, Int.reduceNeg, Int.reduceToNat, Int.reduceEq, Int.reduceNe, Int.reduceTDiv, Int.reduceTMod, implies_true, putL, appN, appX, appC, Eng.Fi, reduceCtorEq, exists_eq_left', exists_eq_left, if_true, if_false, List.replicate, Nat.reduceAdd, Nat.reduceSub, Nat.reduceMul, Nat.reduceLeDiff, Nat.reduceLT, Nat.reduceEqDiff]
  simp (disch := omega) only [wrap64]
  rw [ws7]; congr 1; omega
def c82f : List AV → Option AV
  | [.agg [.int .i64 a, .int .i64 b, .int .i64 c, .int .i64 d, .int .i64 e, .int .i64 f, .int .i64 g]] => if W7 a b c d e f g = true then some (I (ws7 a b c d e f g)) else none
  | _ => none
theorem g82 : Fn P 82 c82f := fun args v h => by
  unfold c82f at h; split at h
  · split at h
    · cases h; exact k82 _ _ _ _ _ _ _ ‹_›
    · cases h
  · cases h
theorem x82 (a b c d e f g : Int) (h : W7 a b c d e f g = true) : c82f [.agg [.int .i64 a, .int .i64 b, .int .i64 c, .int .i64 d, .int .i64 e, .int .i64 f, .int .i64 g]] = some (.int .i64 (ws7 a b c d e f g)) := by simp only [c82f, h, if_true]

theorem k86 (a b c d e f g : Int) (h : W7 a b c d e f g = true) : FOk P 86 [.agg [I a, I b, I c, I d, I e, I f, I g]] (I (ws7 a b c d e f g)) := by
  have h := W7_iff h
  refine c86.fok rfl (Cor.run (noC_good _) (noHx_good _) hm ?_)
  simp +contextual -implicitDefEqProofs (maxSteps := 2000000) only [bg_eq, a86, ruB, rh_no, Int.reduceLT, Int.reduceLE, Int.reduceAdd, Int.reduceSub, Int.reduceMul, Int.reduceNeg, Int.reduceToNat, Int.reduceEq, Int.reduceNe, Int.reduceTDiv, Int.reduceTMod, implies_true, putL, appN, appX, appC, Eng.Fi, reduceCtorEq, exists_eq_left', exists_eq_left, if_true, if_false, List.replicate, Nat.reduceAdd, Nat.reduceSub, Nat.reduceMul, Nat.reduceLeDiff, Nat.reduceLT, Nat.reduceEqDiff]
  refine Cor.rounds (noC_good _) (noHx_good _) hm 8 ?_
  simp +contextual -implicitDefEqProofs (maxSteps := 2000000) only [ruB, rh_no, Int.reduceLT, Int.reduceLE, Int.reduceAdd, Int.reduceSub, Int.reduceMul, Int.reduceNeg, Int.reduceToNat, Int.reduceEq, Int.reduceNe, Int.reduceTDiv, Int.reduceTMod, implies_true, putL, appN, appX, appC, Eng.Fi, reduceCtorEq, exists_eq_left', exists_eq_left, if_true, if_false, List.replicate, Nat.reduceAdd, Nat.reduceSub, Nat.reduceMul, Nat.reduceLeDiff, Nat.reduceLT, Nat.reduceEqDiff]
  simp (disch := omega) only [wrap64]
  rw [ws7]; congr 1; omega
def c86f : List AV → Option AV
  | [.agg [.int .i64 a, .int .i64 b, .int .i64 c, .int .i64 d, .int .i64 e, .int .i64 f, .int .i64 g]] => if W7 a b c d e f g = true then some (I (ws7 a b c d e f g)) else none
  | _ => none
theorem g86 : Fn P 86 c86f := fun args v h => by
  unfold c86f at h; split at h
  · split at h
    · cases h; exact k86 _ _ _ _ _ _ _ ‹_›
    · cases h
  · cases h
theorem x86 (a b c d e f g : Int) (h : W7 a b c d e f g = true) : c86f [.agg [.int .i64 a, .int .i64 b, .int .i64 c, .int .i64 d, .int .i64 e, .int .i64 f, .int .i64 g]] = some (.int .i64 (ws7 a b c d e f g)) := by simp only [c86f, h, if_true]

/-! base.Within, ref.TelegramErr -/
theorem k33 (n lo hi : Int) : FOk P 33 [I n, I lo, I hi] (B (decide (lo ≤ n ∧ n ≤ hi))) := by
  refine c33.fok rfl (Cor.run (noC_good _) (noHx_good _) hm ?_)
  simp +contextual -implicitDefEqProofs (maxSteps := 2000000) only [bg_eq, a33, ruB, rh_no, Int.reduceLT, Int.reduceLE, Int.reduceAdd, Int.reduceSub, Int.reduceMul, Int.reduceNeg, Int.reduceToNat, Int.reduceEq, Int.reduceNe, Int.reduceTDiv, Int.reduceTMod, implies_true, putL, appN, appX, appC, Eng.Fi, reduceCtorEq, exists_eq_left', exists_eq_left, if_true, if_false, List.replicate, Nat.reduceAdd, Nat.reduceSub, Nat.reduceMul, Nat.reduceLeDiff, Nat.reduceLT, Nat.reduceEqDiff]
def c33f : List AV → Option AV
  | [.int .i64 n, .int .i64 lo, .int .i64 hi] => some (.bool (decide (lo ≤ n ∧ n ≤ hi)))
  | _ => none
theorem g33 : Fn P 33 c33f := fun args v h => by
  unfold c33f at h; split at h
  · cases h; exact k33 _ _ _
  · cases h
theorem x33 (n lo hi : Int) : c33f [.int .i64 n, .int .i64 lo, .int .i64 hi] = some (.bool (decide (lo ≤ n ∧ n ≤ hi))) := rfl

theorem k17 (r n k v : Int) : FOk P 17 [.agg [I r, I n, I k, I v]] (I (unl (telOk r n k v) 2)) := by
  refine c17.fok rfl (Cor.run (addC_good g33 (noC_good _)) (noHx_good _) hm ?_)
  simp +contextual -implicitDefEqProofs (maxSteps := 2000000) only [bg_eq, a17, x33, ruB, rh_no, Int.reduceLT, Int.reduceLE, Int.reduceAdd, Int.reduceSub, Int.reduceMul, Int.reduceNeg, Int.reduceToNat, Int.reduceEq, Int.reduceNe, Int.reduceTDiv, Int.reduceTMod, implies_true, putL, appN, appX, appC, Eng.Fi, reduceCtorEq, exists_eq_left', exists_eq_left, if_true, if_false, List.replicate, Nat.reduceAdd, Nat.reduceSub, Nat.reduceMul, Nat.reduceLeDiff, Nat.reduceLT, Nat.reduceEqDiff]
  refine ⟨fun h => ?_, fun h => ?_⟩
  · rw [unl_f _ (by unfold telOk; omega)]
  · rw [unl_t _ (by unfold telOk; omega)]
def c17f : List AV → Option AV
  | [.agg [.int .i64 r, .int .i64 n, .int .i64 k, .int .i64 v]] => some (.int .i64 (unl (telOk r n k v) 2))
  | _ => none
theorem g17 : Fn P 17 c17f := fun args v h => by
  unfold c17f at h; split at h
  · cases h; exact k17 _ _ _ _
  · cases h
theorem x17 (r n k v : Int) : c17f [.agg [.int .i64 r, .int .i64 n, .int .i64 k, .int .i64 v]] = some (.int .i64 (unl (telOk r n k v) 2)) := rfl

/-! Decoded -/
/-- what words say: the four fields, and the error -/
def W7p (a b c d e f g : Int) : Prop := (0 ≤ a ∧ a ≤ 250) ∧ (0 ≤ b ∧ b ≤ 250) ∧ (0 ≤ c ∧ c ≤ 250) ∧ (0 ≤ d ∧ d ≤ 250) ∧ (0 ≤ e ∧ e ≤ 250) ∧ (0 ≤ f ∧ f ≤ 250) ∧ (0 ≤ g ∧ g ≤ 250)
instance (a b c d e f g : Int) : Decidable (W7p a b c d e f g) := by unfold W7p; infer_instance
theorem W7_of {a b c d e f g : Int} (h : W7p a b c d e f g) : W7 a b c d e f g = true := by
  simpa [W7, isW, W7p, and_assoc] using h
def decE (a b c d e f g : Int) : Int :=
  if W7p a b c d e f g then (if (ws7 a b c d e f g).tmod 251 = 0 then (if telOk a (b * 251 + c) d (e * 251 + f) then 0 else 2) else 17) else 2
def decV (a b c d e f g : Int) : AV :=
  if decE a b c d e f g = 0 then .tup [.agg [I a, I (b * 251 + c), I d, I (e * 251 + f)], I 0] else .tup [.agg [I 0, I 0, I 0, I 0], I (decE a b c d e f g)]
theorem decV_free (a b c d e f g : Int) : sub1 noId (decV a b c d e f g) = decV a b c d e f g := by unfold decV; split <;> rfl
theorem decV_bad {a b c d e f g : Int} (h : ¬ W7p a b c d e f g) : decV a b c d e f g = .tup [.agg [I 0, I 0, I 0, I 0], I 2] := by
  have : decE a b c d e f g = 2 := by simp only [decE, h, if_false]
  simp [decV, this]

theorem k16 (a b c d e f g : Int) : FOk P 16 [.agg [I a, I b, I c, I d, I e, I f, I g]] (decV a b c d e f g) := by
  refine c16.fok rfl (Cor.run (addC_good g82 (addC_good g81 (addC_good g83 (addC_good g84 (addC_good g85 (addC_good g107 (noC_good _))))))) (noHx_good _) hm ?_)
  simp +contextual -implicitDefEqProofs (maxSteps := 2000000) only [bg_eq, a16, ruB, rh_no, Int.reduceLT, Int.reduceLE, Int.reduceAdd, Int.reduceSub, Int.reduceMul, Int.reduceNeg, Int.reduceToNat, Int.reduceEq, Int.reduceNe, Int.reduceTDiv, Int.reduceTMod, implies_true, putL, appN, appX, appC, Eng.Fi, reduceCtorEq, exists_eq_left', exists_eq_left, if_true, if_false, List.replicate, Nat.reduceAdd, Nat.reduceSub, Nat.reduceMul, Nat.reduceLeDiff, Nat.reduceLT, Nat.reduceEqDiff]
  refine Cor.rounds (addC_good g82 (addC_good g81 (addC_good g83 (addC_good g84 (addC_good g85 (addC_good g107 (noC_good _))))))) (noHx_good _) hm 8 ?_
  by_cases h : W7p a b c d e f g
  · have hW := W7_of h
    have h' := h
    unfold W7p at h'
    have e1 : IntKind.wrap .i64 (b * 251) = b * 251 := wrap64 (by omega) (by omega)
    have e2 : IntKind.wrap .i64 (b * 251 + c) = b * 251 + c := wrap64 (by omega) (by omega)
    have e3 : IntKind.wrap .i64 (e * 251) = e * 251 := wrap64 (by omega) (by omega)
    have e4 : IntKind.wrap .i64 (e * 251 + f) = e * 251 + f := wrap64 (by omega) (by omega)
    simp +contextual -implicitDefEqProofs (maxSteps := 2000000) only [x83, x82, hW, x85, x81, x84, r84s, Lmax, h', e1, e2, e3, e4, ruB, rh_no, Int.reduceLT, Int.reduceLE, Int.reduceAdd, Int.reduceSub, Int.reduceMul, Int.reduceNeg, Int.reduceToNat, Int.reduceEq, Int.reduceNe, Int.reduceTDiv, Int.reduceTMod, implies_true, putL, appN, appX, appC, Eng.Fi, reduceCtorEq, exists_eq_left', exists_eq_left, if_true, if_false, List.replicate, Nat.reduceAdd, Nat.reduceSub, Nat.reduceMul, Nat.reduceLeDiff, Nat.reduceLT, Nat.reduceEqDiff]
    have hE : firstE [unl ((ws7 a b c d e f g).tmod 251 = 0) 17, unl (telOk a (b * 251 + c) d (e * 251 + f)) 2] = decE a b c d e f g := by
      simp only [firstE, unl, decE, h, if_true]
      by_cases h1 : (ws7 a b c d e f g).tmod 251 = 0 <;> by_cases h2 : telOk a (b * 251 + c) d (e * 251 + f) <;> simp [h1, h2]
    rw [hE]
    exact ⟨fun h0 => ⟨by rw [decV, if_neg h0], decV_free ..⟩, fun h0 => ⟨by rw [decV, if_pos h0], decV_free ..⟩⟩
  · simp +contextual -implicitDefEqProofs (maxSteps := 2000000) only [x83, decV_bad h, decV_free, ruB, rh_no, Int.reduceLT, Int.reduceLE, Int.reduceAdd, Int.reduceSub, Int.reduceMul, Int.reduceNeg, Int.reduceToNat, Int.reduceEq, Int.reduceNe, Int.reduceTDiv, Int.reduceTMod, implies_true, putL, appN, appX, appC, Eng.Fi, reduceCtorEq, exists_eq_left', exists_eq_left, if_true, if_false, List.replicate, Nat.reduceAdd, Nat.reduceSub, Nat.reduceMul, Nat.reduceLeDiff, Nat.reduceLT, Nat.reduceEqDiff]
    intro h1 h2 h3 h4 h5 h6 h7
    exact absurd ⟨h1, h2, h3, h4, h5, h6, h7⟩ h
def c16f : List AV → Option AV
  | [.agg [.int .i64 a, .int .i64 b, .int .i64 c, .int .i64 d, .int .i64 e, .int .i64 f, .int .i64 g]] => some (decV a b c d e f g)
  | _ => none
theorem g16 : Fn P 16 c16f := fun args v h => by
  unfold c16f at h; split at h
  · cases h; exact k16 _ _ _ _ _ _ _
  · cases h
theorem x16 (a b c d e f g : Int) : c16f [.agg [.int .i64 a, .int .i64 b, .int .i64 c, .int .i64 d, .int .i64 e, .int .i64 f, .int .i64 g]] = some (decV a b c d e f g) := rfl

theorem k19 (a b c d e f g : Int) : FOk P 19 [.agg [I a, I b, I c, I d, I e, I f, I g]] (decV a b c d e f g) := by
  refine c19.fok rfl (Cor.run (addC_good g86 (addC_good g17 (addC_good g33 (noC_good _)))) (noHx_good _) hm ?_)
  simp +contextual -implicitDefEqProofs (maxSteps := 2000000) only [bg_eq, a19, ruB, rh_no, Int.reduceLT, Int.reduceLE, Int.reduceAdd, Int.reduceSub, Int.reduceMul, Int.reduceNeg, Int.reduceToNat, Int.reduceEq, Int.reduceNe, Int.reduceTDiv, Int.reduceTMod, implies_true, putL, appN, appX, appC, Eng.Fi, reduceCtorEq, exists_eq_left', exists_eq_left, if_true, if_false, List.replicate, Nat.reduceAdd, Nat.reduceSub, Nat.reduceMul, Nat.reduceLeDiff, Nat.reduceLT, Nat.reduceEqDiff]
  refine Cor.rounds (addC_good g86 (addC_good g17 (addC_good g33 (noC_good _)))) (noHx_good _) hm 8 ?_
  by_cases h : W7p a b c d e f g
  · have hW := W7_of h
    have h' := h
    unfold W7p at h'
    have e1 : IntKind.wrap .i64 (b * 251) = b * 251 := wrap64 (by omega) (by omega)
    have e2 : IntKind.wrap .i64 (b * 251 + c) = b * 251 + c := wrap64 (by omega) (by omega)
    have e3 : IntKind.wrap .i64 (e * 251) = e * 251 := wrap64 (by omega) (by omega)
    have e4 : IntKind.wrap .i64 (e * 251 + f) = e * 251 + f := wrap64 (by omega) (by omega)
    simp +contextual -implicitDefEqProofs (maxSteps := 2000000) only [x33, x86, hW, x17, h', e1, e2, e3, e4, ruB, rh_no, Int.reduceLT, Int.reduceLE, Int.reduceAdd, Int.reduceSub, Int.reduceMul, Int.reduceNeg, Int.reduceToNat, Int.reduceEq, Int.reduceNe, Int.reduceTDiv, Int.reduceTMod, implies_true, putL, appN, appX, appC, Eng.Fi, reduceCtorEq, exists_eq_left', exists_eq_left, if_true, if_false, List.replicate, Nat.reduceAdd, Nat.reduceSub, Nat.reduceMul, Nat.reduceLeDiff, Nat.reduceLT, Nat.reduceEqDiff]
    refine ⟨fun h0 => ⟨?_, decV_free ..⟩, fun h0 => ⟨fun h1 => ⟨?_, decV_free ..⟩, fun h1 => ⟨?_, decV_free ..⟩⟩⟩
    · simp [decV, decE, h, h0]
    · unfold unl at h1 ⊢
      by_cases h2 : telOk a (b * 251 + c) d (e * 251 + f) <;> simp [h2] at h1
      simp [decV, decE, h, h0, h2]
    · unfold unl at h1
      by_cases h2 : telOk a (b * 251 + c) d (e * 251 + f) <;> simp [h2] at h1
      simp [decV, decE, h, h0, h2]
  · simp +contextual -implicitDefEqProofs (maxSteps := 2000000) only [x33, decV_bad h, decV_free, ruB, rh_no, Int.reduceLT, Int.reduceLE, Int.reduceAdd, Int.reduceSub, Int.reduceMul, Int.reduceNeg, Int.reduceToNat, Int.reduceEq, Int.reduceNe, Int.reduceTDiv, Int.reduceTMod, implies_true, putL, appN, appX, appC, Eng.Fi, reduceCtorEq, exists_eq_left', exists_eq_left, if_true, if_false, List.replicate, Nat.reduceAdd, Nat.reduceSub, Nat.reduceMul, Nat.reduceLeDiff, Nat.reduceLT, Nat.reduceEqDiff]
    intro h1 h2 h3 h4 h5 h6 h7
    exact absurd ⟨h1, h2, h3, h4, h5, h6, h7⟩ h
def c19f : List AV → Option AV
  | [.agg [.int .i64 a, .int .i64 b, .int .i64 c, .int .i64 d, .int .i64 e, .int .i64 f, .int .i64 g]] => some (decV a b c d e f g)
  | _ => none
theorem g19 : Fn P 19 c19f := fun args v h => by
  unfold c19f at h; split at h
  · cases h; exact k19 _ _ _ _ _ _ _
  · cases h
theorem x19 (a b c d e f g : Int) : c19f [.agg [.int .i64 a, .int .i64 b, .int .i64 c, .int .i64 d, .int .i64 e, .int .i64 f, .int .i64 g]] = some (decV a b c d e f g) := rfl
end Sh
