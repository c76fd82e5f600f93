import Derived.Test.YtjkhnmhbbjgenaaEngS9
import Derived.Test.YtjkhnmhbbjgenaaEngZ
import Derived.Test.YtjkhnmhbbjgenaaProg
import Derived.Test.YtjkhnmhbbjgenaaS0
open Go Go.Proofs Eng
set_option maxRecDepth 100000
set_option linter.unusedSimpArgs false
set_option linter.unusedVariables false
def a34 : AC := .seq (.ops false [] [⟨some 1, .box 39 2 1 true, [.t 0], none⟩, ⟨some 2, .p (.mov), [.c (.int .i64 0)], none⟩]) (.seq (.seq (.ops false [] [⟨some 3, .p (.faddr 0), [.t 1], none⟩, ⟨some 4, .load 1 false, [.t 3], none⟩, ⟨some 5, .call 38, [.t 4, .c (.int .i64 1), .c (.int .i64 30)], none⟩, ⟨some 6, .p (.notB), [.t 5], none⟩, ⟨some 7, .p (.mov), [.t 6], none⟩, ⟨some 8, .p (.faddr 1), [.t 1], some (7, false)⟩, ⟨some 9, .load 1 false, [.t 8], some (7, false)⟩, ⟨some 10, .call 38, [.t 9, .c (.int .i64 1), .c (.int .i64 30)], some (7, false)⟩, ⟨some 11, .p (.notB), [.t 10], some (7, false)⟩, ⟨some 12, .p (.pick), [.t 7, .c (.bool true), .t 11], none⟩]) (.cond (.t 12) (.seq (.ops false [] [⟨some 2, .p (.mov), [.c (.int .i64 2)], none⟩]) (.ret)) (.skip))) (.seq (.ops false [] [⟨some 2, .p (.mov), [.c (.int .i64 0)], none⟩]) (.ret)))
theorem c34 : FnC Try.prog 34 13 a34 [.tmp 2] := ⟨Try.call34, _, _, Try.func34, rfl, by kernel_rfl, by kernel_rfl, rfl⟩
def a36 : AC := .seq (.ops false [] [⟨some 2, .box 39 2 1 true, [.t 0], none⟩, ⟨some 4, .p (.mov), [.c (.int .i64 0)], none⟩, ⟨some 5, .p (.mov), [.c (.int .i64 0)], none⟩]) (.seq (.seq (.ops false [] [⟨some 7, .load 2 true, [.t 2], none⟩, ⟨some 8, .call 37, [.t 7], none⟩, ⟨some 9, .p (.mov), [.t 1], none⟩, ⟨some 10, .call 87, [.t 9, .c (.int .i64 0), .c (.int .i64 360)], none⟩, ⟨some 11, .call 79, [.t 10, .c (.int .i64 2)], none⟩, ⟨some 12, .fbs 1, [.t 8, .t 11], none⟩, ⟨some 13, .call 86, [.t 12], none⟩, ⟨some 6, .p (.mov), [.t 13], none⟩]) (.seq (.ops false [] [⟨some 14, .p (.mov), [.t 6], none⟩, ⟨some 15, .p (.binI .neq), [.t 14, .c (.int .i64 0)], none⟩]) (.cond (.t 15) (.seq (.ops false [] [⟨some 16, .p (.mov), [.t 6], none⟩, ⟨some 4, .p (.mov), [.c (.int .i64 0)], none⟩, ⟨some 5, .p (.mov), [.t 16], none⟩]) (.ret)) (.skip)))) (.seq (.ops false [] [⟨some 17, .load 2 true, [.t 2], none⟩, ⟨some 18, .p (.mov), [.t 1], none⟩, ⟨some 19, .call 89, [.t 17, .t 18], none⟩, ⟨some 4, .p (.mov), [.t 19], none⟩, ⟨some 5, .p (.mov), [.c (.int .i64 0)], none⟩]) (.ret)))
theorem c36 : FnC Try.prog 36 20 a36 [.tmp 4, .tmp 5] := ⟨Try.call36, _, _, Try.func36, rfl, by kernel_rfl, by kernel_rfl, rfl⟩
def a37 : AC := .seq (.ops false [] [⟨some 1, .box 39 2 1 true, [.t 0], none⟩, ⟨some 2, .p (.mov), [.c (.int .i64 0)], none⟩]) (.seq (.ops false [] [⟨some 3, .p (.mov), [.c (.fn 90 [] [])], none⟩]) (.seq (.ops false [] [⟨some 4, .p (.mov), [.t 3], none⟩, ⟨some 5, .p (.faddr 0), [.t 1], none⟩, ⟨some 6, .load 1 false, [.t 5], none⟩, ⟨some 7, .callv, [.t 4, .t 6], none⟩, ⟨some 8, .p (.mov), [.t 7], none⟩, ⟨some 9, .p (.mov), [.t 3], some (8, true)⟩, ⟨some 10, .p (.faddr 1), [.t 1], some (8, true)⟩, ⟨some 11, .load 1 false, [.t 10], some (8, true)⟩, ⟨some 12, .callv, [.t 9, .t 11], some (8, true)⟩, ⟨some 13, .p (.pick), [.t 8, .t 12, .c (.bool false)], none⟩, ⟨some 14, .call 79, [.t 13, .c (.int .i64 2)], none⟩, ⟨some 2, .p (.mov), [.t 14], none⟩]) (.ret)))
theorem c37 : FnC Try.prog 37 15 a37 [.tmp 2] := ⟨Try.call37, _, _, Try.func37, rfl, by kernel_rfl, by kernel_rfl, rfl⟩
def a38 : AC := .seq (.ops false [] [⟨some 6, .p (.mov), [.c (.bool false)], none⟩]) (.seq (.ops false [] [⟨some 7, .p (.mov), [.t 1], none⟩, ⟨some 8, .p (.mov), [.t 0], none⟩, ⟨some 9, .p (.binI .leq), [.t 7, .t 8], none⟩, ⟨some 10, .p (.mov), [.t 9], none⟩, ⟨some 11, .p (.mov), [.t 0], some (10, true)⟩, ⟨some 12, .p (.mov), [.t 2], some (10, true)⟩, ⟨some 13, .p (.binI .leq), [.t 11, .t 12], some (10, true)⟩, ⟨some 14, .p (.pick), [.t 10, .t 13, .c (.bool false)], none⟩, ⟨some 6, .p (.mov), [.t 14], none⟩]) (.ret))
theorem c38 : FnC Try.prog 38 15 a38 [.tmp 6] := ⟨Try.call38, _, _, Try.func38, rfl, by kernel_rfl, by kernel_rfl, rfl⟩
def a39 : AC := .seq (.ops false [] [⟨some 2, .box 39 2 1 true, [.t 0], none⟩, ⟨some 4, .p (.mov), [.c (.int .i64 0)], none⟩]) (.seq (.ops false [] [⟨some 5, .p (.mov), [.c (.int .i64 0)], none⟩]) (.seq (.seq (.ops false [] [⟨some 6, .p (.mov), [.c (.int .i64 1)], none⟩]) (.block 0 (.loop (.seq (.seq (.ops false [] [⟨some 7, .p (.mov), [.t 6], none⟩, ⟨some 8, .p (.mov), [.t 1], none⟩, ⟨some 9, .p (.binI .leq), [.t 7, .t 8], none⟩]) (.cond (.t 9) (.skip) (.exit 0))) (.seq (.block 1 (.ops false [] [⟨some 12, .p (.mov), [.t 5], none⟩, ⟨some 13, .p (.faddr 0), [.t 2], none⟩, ⟨some 14, .load 1 false, [.t 13], none⟩, ⟨some 15, .p (.mov), [.t 6], none⟩, ⟨some 16, .p (.faddr 1), [.t 2], none⟩, ⟨some 17, .load 1 false, [.t 16], none⟩, ⟨some 18, .p (.binI .mul), [.t 15, .t 17], none⟩, ⟨some 19, .p (.mov), [.t 1], none⟩, ⟨some 20, .p (.binI .add), [.t 19, .c (.int .i64 1)], none⟩, ⟨some 21, .p (.mov), [.t 6], none⟩, ⟨some 22, .p (.binI .sub), [.t 20, .t 21], none⟩, ⟨some 23, .p (.faddr 1), [.t 2], none⟩, ⟨some 24, .load 1 false, [.t 23], none⟩, ⟨some 25, .p (.binI .mul), [.t 22, .t 24], none⟩, ⟨some 26, .p (.mm false), [.t 18, .t 25], none⟩, ⟨some 27, .p (.mm false), [.t 14, .t 26], none⟩, ⟨some 28, .p (.binI .add), [.t 12, .t 27], none⟩, ⟨some 5, .p (.mov), [.t 28], none⟩])) (.ops false [] [⟨some 10, .p (.mov), [.t 6], none⟩, ⟨some 11, .p (.binI .add), [.t 10, .c (.int .i64 1)], none⟩, ⟨some 6, .p (.mov), [.t 11], none⟩])))))) (.seq (.ops false [] [⟨some 29, .p (.mov), [.t 5], none⟩, ⟨some 4, .p (.mov), [.t 29], none⟩]) (.ret))))
theorem c39 : FnC Try.prog 39 30 a39 [.tmp 4] := ⟨Try.call39, _, _, Try.func39, rfl, by kernel_rfl, by kernel_rfl, rfl⟩
def a40 : AC := .seq (.ops false [] [⟨some 2, .box 39 2 1 true, [.t 0], none⟩, ⟨some 4, .p (.mov), [.c (.int .i64 0)], none⟩]) (.seq (.ops false [] [⟨some 5, .p (.mov), [.c (.int .i64 0)], none⟩]) (.seq (.block 0 (.loop (.seq (.seq (.ops false [] [⟨some 6, .load 2 true, [.t 2], none⟩, ⟨some 7, .p (.mov), [.t 5], none⟩, ⟨some 8, .call 39, [.t 6, .t 7], none⟩, ⟨some 9, .p (.mov), [.t 1], none⟩, ⟨some 10, .p (.binI .lss), [.t 8, .t 9], none⟩]) (.cond (.t 10) (.skip) (.exit 0))) (.block 1 (.ops false [] [⟨some 11, .p (.mov), [.t 5], none⟩, ⟨some 12, .p (.binI .add), [.t 11, .c (.int .i64 1)], none⟩, ⟨some 5, .p (.mov), [.t 12], none⟩]))))) (.seq (.ops false [] [⟨some 13, .p (.mov), [.t 5], none⟩, ⟨some 4, .p (.mov), [.t 13], none⟩]) (.ret))))
theorem c40 : FnC Try.prog 40 14 a40 [.tmp 4] := ⟨Try.call40, _, _, Try.func40, rfl, by kernel_rfl, by kernel_rfl, rfl⟩
def a79 : AC := .seq (.ops false [] [⟨some 4, .p (.mov), [.c (.int .i64 0)], none⟩]) (.seq (.seq (.ops false [] [⟨some 5, .p (.mov), [.t 0], none⟩]) (.cond (.t 5) (.seq (.ops false [] [⟨some 4, .p (.mov), [.c (.int .i64 0)], none⟩]) (.ret)) (.skip))) (.seq (.ops false [] [⟨some 6, .p (.mov), [.t 1], none⟩, ⟨some 4, .p (.mov), [.t 6], none⟩]) (.ret)))
theorem c79 : FnC Try.prog 79 7 a79 [.tmp 4] := ⟨Try.call79, _, _, Try.func79, rfl, by kernel_rfl, by kernel_rfl, rfl⟩
def a86 : AC := .seq (.ops false [] [⟨some 2, .p (.mov), [.c (.int .i64 0)], none⟩]) (.seq (.seq (.ops false [] [⟨some 5, .p (.mov), [.t 0], none⟩, ⟨some 6, .p (.lenS), [.t 5], none⟩, ⟨some 7, .p (.mov), [.c (.int .i64 0)], none⟩]) (.block 0 (.loop (.seq (.ops false [] [⟨some 8, .p (.binI .lss), [.t 7, .t 6], none⟩]) (.seq (.cond (.t 8) (.skip) (.exit 0)) (.seq (.block 1 (.seq (.ops false [] [⟨some 9, .p (.iaddrS 1), [.t 5, .t 7], none⟩, ⟨some 10, .load 1 false, [.t 9], none⟩, ⟨some 4, .p (.mov), [.t 10], none⟩]) (.seq (.ops false [] [⟨some 11, .p (.mov), [.t 4], none⟩, ⟨some 12, .p (.binI .neq), [.t 11, .c (.int .i64 0)], none⟩]) (.cond (.t 12) (.seq (.ops false [] [⟨some 13, .p (.mov), [.t 4], none⟩, ⟨some 2, .p (.mov), [.t 13], none⟩]) (.ret)) (.skip))))) (.ops false [] [⟨some 14, .p (.binI .add), [.t 7, .c (.int .i64 1)], none⟩, ⟨some 7, .p (.mov), [.t 14], none⟩]))))))) (.seq (.ops false [] [⟨some 2, .p (.mov), [.c (.int .i64 0)], none⟩]) (.ret)))
theorem c86 : FnC Try.prog 86 15 a86 [.tmp 2] := ⟨Try.call86, _, _, Try.func86, rfl, by kernel_rfl, by kernel_rfl, rfl⟩
def a87 : AC := .seq (.ops false [] [⟨some 6, .p (.mov), [.c (.bool false)], none⟩]) (.seq (.ops false [] [⟨some 7, .p (.mov), [.t 1], none⟩, ⟨some 8, .p (.mov), [.t 0], none⟩, ⟨some 9, .p (.binI .leq), [.t 7, .t 8], none⟩, ⟨some 10, .p (.mov), [.t 9], none⟩, ⟨some 11, .p (.mov), [.t 0], some (10, true)⟩, ⟨some 12, .p (.mov), [.t 2], some (10, true)⟩, ⟨some 13, .p (.binI .leq), [.t 11, .t 12], some (10, true)⟩, ⟨some 14, .p (.pick), [.t 10, .t 13, .c (.bool false)], none⟩, ⟨some 6, .p (.mov), [.t 14], none⟩]) (.ret))
theorem c87 : FnC Try.prog 87 15 a87 [.tmp 6] := ⟨Try.call87, _, _, Try.func87, rfl, by kernel_rfl, by kernel_rfl, rfl⟩
def a88 : AC := .seq (.ops false [] [⟨some 2, .box 39 2 1 true, [.t 0], none⟩, ⟨some 4, .p (.mov), [.c (.int .i64 0)], none⟩]) (.seq (.ops false [] [⟨some 5, .p (.mov), [.c (.int .i64 0)], none⟩]) (.seq (.seq (.ops false [] [⟨some 7, .p (.mov), [.t 1], none⟩, ⟨some 8, .p (.mov), [.c (.int .i64 0)], none⟩]) (.block 0 (.loop (.seq (.ops false [] [⟨some 9, .p (.binI .lss), [.t 8, .t 7], none⟩]) (.seq (.cond (.t 9) (.skip) (.exit 0)) (.seq (.block 1 (.seq (.ops false [] [⟨some 10, .p (.mov), [.t 8], none⟩, ⟨some 6, .p (.mov), [.t 10], none⟩]) (.ops false [] [⟨some 11, .p (.mov), [.t 5], none⟩, ⟨some 12, .p (.faddr 0), [.t 2], none⟩, ⟨some 13, .load 1 false, [.t 12], none⟩, ⟨some 14, .p (.mov), [.t 6], none⟩, ⟨some 15, .p (.binI .add), [.t 14, .c (.int .i64 1)], none⟩, ⟨some 16, .p (.faddr 1), [.t 2], none⟩, ⟨some 17, .load 1 false, [.t 16], none⟩, ⟨some 18, .p (.binI .mul), [.t 15, .t 17], none⟩, ⟨some 19, .p (.mov), [.t 1], none⟩, ⟨some 20, .p (.mov), [.t 6], none⟩, ⟨some 21, .p (.binI .sub), [.t 19, .t 20], none⟩, ⟨some 22, .p (.faddr 1), [.t 2], none⟩, ⟨some 23, .load 1 false, [.t 22], none⟩, ⟨some 24, .p (.binI .mul), [.t 21, .t 23], none⟩, ⟨some 25, .p (.mm false), [.t 13, .t 18, .t 24], none⟩, ⟨some 26, .p (.binI .add), [.t 11, .t 25], none⟩, ⟨some 5, .p (.mov), [.t 26], none⟩]))) (.ops false [] [⟨some 27, .p (.binI .add), [.t 8, .c (.int .i64 1)], none⟩, ⟨some 8, .p (.mov), [.t 27], none⟩]))))))) (.seq (.ops false [] [⟨some 28, .p (.mov), [.t 5], none⟩, ⟨some 4, .p (.mov), [.t 28], none⟩]) (.ret))))
theorem c88 : FnC Try.prog 88 29 a88 [.tmp 4] := ⟨Try.call88, _, _, Try.func88, rfl, by kernel_rfl, by kernel_rfl, rfl⟩
def a89 : AC := .seq (.ops false [] [⟨some 2, .box 39 2 1 true, [.t 0], none⟩, ⟨some 4, .p (.mov), [.c (.int .i64 0)], none⟩]) (.seq (.ops false [] [⟨some 5, .p (.mov), [.c (.int .i64 0)], none⟩]) (.seq (.block 0 (.loop (.seq (.seq (.ops false [] [⟨some 6, .load 2 true, [.t 2], none⟩, ⟨some 7, .p (.mov), [.t 5], none⟩, ⟨some 8, .call 88, [.t 6, .t 7], none⟩, ⟨some 9, .p (.mov), [.t 1], none⟩, ⟨some 10, .p (.binI .lss), [.t 8, .t 9], none⟩]) (.cond (.t 10) (.skip) (.exit 0))) (.block 1 (.ops false [] [⟨some 11, .p (.mov), [.t 5], none⟩, ⟨some 12, .p (.binI .add), [.t 11, .c (.int .i64 1)], none⟩, ⟨some 5, .p (.mov), [.t 12], none⟩]))))) (.seq (.ops false [] [⟨some 13, .p (.mov), [.t 5], none⟩, ⟨some 4, .p (.mov), [.t 13], none⟩]) (.ret))))
theorem c89 : FnC Try.prog 89 14 a89 [.tmp 4] := ⟨Try.call89, _, _, Try.func89, rfl, by kernel_rfl, by kernel_rfl, rfl⟩
def a90 : AC := .seq (.ops false [] [⟨some 2, .p (.mov), [.c (.bool false)], none⟩]) (.seq (.ops false [] [⟨some 3, .p (.mov), [.t 0], none⟩, ⟨some 4, .call 87, [.t 3, .c (.int .i64 1), .c (.int .i64 30)], none⟩, ⟨some 2, .p (.mov), [.t 4], none⟩]) (.ret))
theorem c90 : FnC Try.prog 90 5 a90 [.tmp 2] := ⟨Try.call90, _, _, Try.func90, rfl, by kernel_rfl, by kernel_rfl, rfl⟩
namespace Sc
theorem hm : Try.prog.follows .mixedOrders = true := by kernel_rfl
noncomputable abbrev P := Try.prog
theorem k_within (n lo hi : Int) : FOk P 87 [I n, I lo, I hi] (.bool (decide (lo ≤ n ∧ n ≤ hi))) := by
  refine c87.fok rfl (Cor.run (noC_good _) (noHx_good _) hm ?_)
  simp +contextual -implicitDefEqProofs (maxSteps := 2000000) only [bg_eq, a87, ruB, rh_no, Int.reduceLT, Int.reduceLE, Int.reduceAdd, Int.reduceSub, Int.reduceMul, Int.reduceNeg, Int.reduceToNat, Int.reduceEq, Int.reduceNe, Int.reduceTDiv, Int.reduceTMod, implies_true, putL, appN, appX, appC, Eng.Fi, reduceCtorEq, exists_eq_left', exists_eq_left, if_true, if_false, List.replicate, Nat.reduceAdd, Nat.reduceSub, Nat.reduceMul, Nat.reduceLeDiff, Nat.reduceLT, Nat.reduceEqDiff]
def cf_within : List AV → Option AV
  | [.int .i64 n, .int .i64 lo, .int .i64 hi] => some (.bool (decide (lo ≤ n ∧ n ≤ hi)))
  | _ => none
theorem g_within : Fn P 87 cf_within := fun args v h => by
  unfold cf_within at h; split at h
  · have h := Option.some.inj h; subst h; exact k_within _ _ _
  · cases h
theorem x_within (n lo hi : Int) : cf_within [.int .i64 n, .int .i64 lo, .int .i64 hi] = some (.bool (decide (lo ≤ n ∧ n ≤ hi))) := rfl
theorem k_Within (n lo hi : Int) : FOk P 38 [I n, I lo, I hi] (.bool (decide (lo ≤ n ∧ n ≤ hi))) := by
  refine c38.fok rfl (Cor.run (noC_good _) (noHx_good _) hm ?_)
  simp +contextual -implicitDefEqProofs (maxSteps := 2000000) only [bg_eq, a38, ruB, rh_no, Int.reduceLT, Int.reduceLE, Int.reduceAdd, Int.reduceSub, Int.reduceMul, Int.reduceNeg, Int.reduceToNat, Int.reduceEq, Int.reduceNe, Int.reduceTDiv, Int.reduceTMod, implies_true, putL, appN, appX, appC, Eng.Fi, reduceCtorEq, exists_eq_left', exists_eq_left, if_true, if_false, List.replicate, Nat.reduceAdd, Nat.reduceSub, Nat.reduceMul, Nat.reduceLeDiff, Nat.reduceLT, Nat.reduceEqDiff]
def cf_Within : List AV → Option AV
  | [.int .i64 n, .int .i64 lo, .int .i64 hi] => some (.bool (decide (lo ≤ n ∧ n ≤ hi)))
  | _ => none
theorem g_Within : Fn P 38 cf_Within := fun args v h => by
  unfold cf_Within at h; split at h
  · have h := Option.some.inj h; subst h; exact k_Within _ _ _
  · cases h
theorem x_Within (n lo hi : Int) : cf_Within [.int .i64 n, .int .i64 lo, .int .i64 hi] = some (.bool (decide (lo ≤ n ∧ n ≤ hi))) := rfl
def unl (ok : Prop) [Decidable ok] (e : Int) : Int := if ok then 0 else e
theorem unl_t {ok : Prop} [Decidable ok] (e : Int) (h : ok) : unl ok e = 0 := if_pos h
theorem unl_f {ok : Prop} [Decidable ok] (e : Int) (h : ¬ ok) : unl ok e = e := if_neg h
theorem unl_zero {p : Prop} [Decidable p] {e : Int} (h : unl p e = 0) (he : e ≠ 0) : p := by
  unfold unl at h
  split at h
  · assumption
  · exact absurd h he
theorem k_unless (ok : Bool) (e : Int) : FOk P 79 [B ok, I e] (I (unl (ok = true) e)) := by
  refine c79.fok rfl (Cor.run (noC_good _) (noHx_good _) hm ?_)
  simp +contextual -implicitDefEqProofs (maxSteps := 2000000) only [bg_eq, a79, CV_b, ruB, rh_no, Int.reduceLT, Int.reduceLE, Int.reduceAdd, Int.reduceSub, Int.reduceMul, Int.reduceNeg, Int.reduceToNat, Int.reduceEq, Int.reduceNe, Int.reduceTDiv, Int.reduceTMod, implies_true, putL, appN, appX, appC, Eng.Fi, reduceCtorEq, exists_eq_left', exists_eq_left, if_true, if_false, List.replicate, Nat.reduceAdd, Nat.reduceSub, Nat.reduceMul, Nat.reduceLeDiff, Nat.reduceLT, Nat.reduceEqDiff]
  simp only [unl]
  cases ok <;> simp
def cf_unless : List AV → Option AV
  | [.bool ok, .int .i64 e] => some (I (unl (ok = true) e))
  | _ => none
theorem g_unless : Fn P 79 cf_unless := fun args v h => by
  unfold cf_unless at h; split at h
  · cases h; exact k_unless _ _
  · cases h
theorem x_unless (p : Prop) [Decidable p] (e : Int) : cf_unless [.bool (decide p), .int .i64 e] = some (.int .i64 (unl p e)) := by simp [cf_unless, unl]
def firstE : List Int → Int
  | [] => 0
  | e :: l => if e = 0 then firstE l else e
def S86 (l : List Int) (n : Nat) : AState := ⟨[.vs (l.map I), .any, I 0, .any, .any, .vs (l.map I), I l.length, I n, .any, .any, .any, .any, .any, .any, .any], [], 0⟩
theorem k_first (l : List Int) (hl : l.length ≤ 1099511627776) : FOk P 86 [.vs (l.map I)] (I (firstE l)) := by
  refine c86.fok (by simp only [subs, sub1, subs_I]) (Cor.run (noC_good _) (noHx_good _) hm ?_)
  simp +contextual -implicitDefEqProofs (maxSteps := 2000000) only [bg_eq, a86, List.length_map, ruB, rh_no, Int.reduceLT, Int.reduceLE, Int.reduceAdd, Int.reduceSub, Int.reduceMul, Int.reduceNeg, Int.reduceToNat, Int.reduceEq, Int.reduceNe, Int.reduceTDiv, Int.reduceTMod, implies_true, putL, appN, appX, appC, Eng.Fi, reduceCtorEq, exists_eq_left', exists_eq_left, if_true, if_false, List.replicate, Nat.reduceAdd, Nat.reduceSub, Nat.reduceMul, Nat.reduceLeDiff, Nat.reduceLT, Nat.reduceEqDiff]
  refine Cor.lp (noC_good _) (noHx_good _) hm (S86 l) (fun n => n ≤ l.length ∧ firstE l = firstE (l.drop n)) (fun n => l.length - n) (a := 0) ⟨Nat.zero_le _, by simp⟩ (Wkn.keep [0, 2, 5, 6, 7] rfl) ?_
  intro f n ⟨hn, hf⟩ go
  rcases Nat.lt_or_ge n l.length with h | h
  · have e1 : decide ((n : Int) < (l.length : Int)) = true := lt_t h
    have e2 : (l.map I)[n]? = some (I l[n]) := get_e I l h
    have e3 : IntKind.wrap .i64 ((n : Int) + 1) = ((n + 1 : Nat) : Int) := suc_w (by omega)
    have e4 : l.drop n = l[n] :: l.drop (n + 1) := List.drop_eq_getElem_cons h
    rw [e4] at hf
    simp +contextual -implicitDefEqProofs (maxSteps := 2000000) only [S86, e1, e2, e3, ruB, rh_no, Int.reduceLT, Int.reduceLE, Int.reduceAdd, Int.reduceSub, Int.reduceMul, Int.reduceNeg, Int.reduceToNat, Int.reduceEq, Int.reduceNe, Int.reduceTDiv, Int.reduceTMod, implies_true, putL, appN, appX, appC, Eng.Fi, reduceCtorEq, exists_eq_left', exists_eq_left, if_true, if_false, List.replicate, Nat.reduceAdd, Nat.reduceSub, Nat.reduceMul, Nat.reduceLeDiff, Nat.reduceLT, Nat.reduceEqDiff]
    refine ⟨fun h0 => ?_, fun h0 => go _ (n + 1) ⟨h, ?_⟩ (by omega) (Wkn.keep [0, 2, 5, 6, 7] rfl)⟩
    · rw [hf, firstE, if_neg h0]
    · rw [hf, firstE, if_pos h0]
  · have e1 : decide ((n : Int) < (l.length : Int)) = false := lt_f h
    simp +contextual -implicitDefEqProofs (maxSteps := 2000000) only [S86, e1, ruB, rh_no, Int.reduceLT, Int.reduceLE, Int.reduceAdd, Int.reduceSub, Int.reduceMul, Int.reduceNeg, Int.reduceToNat, Int.reduceEq, Int.reduceNe, Int.reduceTDiv, Int.reduceTMod, implies_true, putL, appN, appX, appC, Eng.Fi, reduceCtorEq, exists_eq_left', exists_eq_left, if_true, if_false, List.replicate, Nat.reduceAdd, Nat.reduceSub, Nat.reduceMul, Nat.reduceLeDiff, Nat.reduceLT, Nat.reduceEqDiff]
    rw [hf, List.drop_eq_nil_of_le h]; rfl
def rfirst : Option (List Int) → Option AV
  | some l => if l.length ≤ 1099511627776 then some (I (firstE l)) else none
  | none => none
def cf_first : List AV → Option AV
  | [.vs vals] => rfirst (decL decI vals)
  | _ => none
theorem g_first : Fn P 86 cf_first := fun args v h => by
  unfold cf_first at h; split at h
  · unfold rfirst at h; split at h
    · rename_i l h1
      split at h
      · cases h; rw [decL_inv decI I (fun v x => decI_inv) h1]; exact k_first l ‹_›
      · cases h
    · cases h
  · cases h
theorem x_first (vals : List AV) : cf_first [.vs vals] = rfirst (decL decI vals) := rfl
theorem y_first (l : List Int) (h : (l.length ≤ 1099511627776) = True) : rfirst (some l) = some (.int .i64 (firstE l)) := by simp only [rfirst, h, if_true]
theorem firstE_zero : ∀ {l : List Int}, firstE l = 0 → ∀ e ∈ l, e = 0
  | [], _, e, he => by simp at he
  | x :: l, h, e, he => by
    simp only [firstE] at h
    split at h
    · rename_i hx
      rcases List.mem_cons.1 he with rfl | he
      · exact hx
      · exact firstE_zero h e he
    · rename_i hx; exact absurd h hx
theorem k_isRate (n : Int) : FOk P 90 [I n] (.bool (decide (1 ≤ n ∧ n ≤ 30))) := by
  refine c90.fok rfl (Cor.run (addC_good g_within (noC_good _)) (noHx_good _) hm ?_)
  simp +contextual -implicitDefEqProofs (maxSteps := 2000000) only [bg_eq, a90, x_within, ruB, rh_no, Int.reduceLT, Int.reduceLE, Int.reduceAdd, Int.reduceSub, Int.reduceMul, Int.reduceNeg, Int.reduceToNat, Int.reduceEq, Int.reduceNe, Int.reduceTDiv, Int.reduceTMod, implies_true, putL, appN, appX, appC, Eng.Fi, reduceCtorEq, exists_eq_left', exists_eq_left, if_true, if_false, List.replicate, Nat.reduceAdd, Nat.reduceSub, Nat.reduceMul, Nat.reduceLeDiff, Nat.reduceLT, Nat.reduceEqDiff]
def cf_isRate : List AV → Option AV
  | [.int .i64 n] => some (.bool (decide (1 ≤ n ∧ n ≤ 30)))
  | _ => none
theorem g_isRate : Fn P 90 cf_isRate := fun args v h => by
  unfold cf_isRate at h; split at h
  · have h := Option.some.inj h; subst h; exact k_isRate _
  · cases h
theorem x_isRate (n : Int) : cf_isRate [.int .i64 n] = some (.bool (decide (1 ≤ n ∧ n ≤ 30))) := rfl
def axE (r a : Int) : Int := unl (axR r a) 2
theorem k_CheckAxis (r a : Int) : FOk P 37 [.agg [I r, I a]] (I (axE r a)) := by
  refine c37.fok rfl (Cor.run (addC_good g_unless (addC_good g_isRate (noC_good _))) (noHx_good _) hm ?_)
  simp +contextual -implicitDefEqProofs (maxSteps := 2000000) only [bg_eq, a37, x_isRate, x_unless, axE, axR, ruB, rh_no, Int.reduceLT, Int.reduceLE, Int.reduceAdd, Int.reduceSub, Int.reduceMul, Int.reduceNeg, Int.reduceToNat, Int.reduceEq, Int.reduceNe, Int.reduceTDiv, Int.reduceTMod, implies_true, putL, appN, appX, appC, Eng.Fi, reduceCtorEq, exists_eq_left', exists_eq_left, if_true, if_false, List.replicate, Nat.reduceAdd, Nat.reduceSub, Nat.reduceMul, Nat.reduceLeDiff, Nat.reduceLT, Nat.reduceEqDiff]
def cf_CheckAxis : List AV → Option AV
  | [.agg [.int .i64 r, .int .i64 a]] => some (.int .i64 (axE r a))
  | _ => none
theorem g_CheckAxis : Fn P 37 cf_CheckAxis := fun args v h => by
  unfold cf_CheckAxis at h; split at h
  · have h := Option.some.inj h; subst h; exact k_CheckAxis _ _
  · cases h
theorem x_CheckAxis (r a : Int) : cf_CheckAxis [.agg [.int .i64 r, .int .i64 a]] = some (.int .i64 (axE r a)) := rfl
theorem k_rAxisErr (r a : Int) : FOk P 34 [.agg [I r, I a]] (I (axE r a)) := by
  refine c34.fok rfl (Cor.run (addC_good g_Within (noC_good _)) (noHx_good _) hm ?_)
  simp +contextual -implicitDefEqProofs (maxSteps := 2000000) only [bg_eq, a34, x_Within, ruB, rh_no, Int.reduceLT, Int.reduceLE, Int.reduceAdd, Int.reduceSub, Int.reduceMul, Int.reduceNeg, Int.reduceToNat, Int.reduceEq, Int.reduceNe, Int.reduceTDiv, Int.reduceTMod, implies_true, putL, appN, appX, appC, Eng.Fi, reduceCtorEq, exists_eq_left', exists_eq_left, if_true, if_false, List.replicate, Nat.reduceAdd, Nat.reduceSub, Nat.reduceMul, Nat.reduceLeDiff, Nat.reduceLT, Nat.reduceEqDiff]
  refine ⟨fun h => ?_, fun h => ?_⟩
  · rw [axE, unl_f]; unfold axR; omega
  · rw [axE, unl_t]; unfold axR; omega
def cf_rAxisErr : List AV → Option AV
  | [.agg [.int .i64 r, .int .i64 a]] => some (.int .i64 (axE r a))
  | _ => none
theorem g_rAxisErr : Fn P 34 cf_rAxisErr := fun args v h => by
  unfold cf_rAxisErr at h; split at h
  · have h := Option.some.inj h; subst h; exact k_rAxisErr _ _
  · cases h
theorem x_rAxisErr (r a : Int) : cf_rAxisErr [.agg [.int .i64 r, .int .i64 a]] = some (.int .i64 (axE r a)) := rfl
def S88 (r a : Int) (t : Nat) (n : Nat) : AState := ⟨[.any, I t, .ptr 0 2 0 0, .any, .any, I (sumF (stp r a t) n), .any, I t, I n, .any, .any, .any, .any, .any, .any, .any, .any, .any, .any, .any, .any, .any, .any, .any, .any, .any, .any, .any, .any], [⟨0, 0, .rows 39 2 [.agg [I r, I a]]⟩], 1⟩
theorem k_reach (r a : Int) (t : Nat) (h : axR r a) (ht : t ≤ 100000) : FOk P 88 [.agg [I r, I a], I t] (I (rch r a t)) := by
  refine c88.fok rfl (Cor.run (noC_good _) (noHx_good _) hm ?_)
  simp +contextual -implicitDefEqProofs (maxSteps := 2000000) only [bg_eq, a88, ruB, rh_no, Int.reduceLT, Int.reduceLE, Int.reduceAdd, Int.reduceSub, Int.reduceMul, Int.reduceNeg, Int.reduceToNat, Int.reduceEq, Int.reduceNe, Int.reduceTDiv, Int.reduceTMod, implies_true, putL, appN, appX, appC, Eng.Fi, reduceCtorEq, exists_eq_left', exists_eq_left, if_true, if_false, List.replicate, Nat.reduceAdd, Nat.reduceSub, Nat.reduceMul, Nat.reduceLeDiff, Nat.reduceLT, Nat.reduceEqDiff]
  refine Cor.lp (noC_good _) (noHx_good _) hm (S88 r a t) (fun n => n ≤ t) (fun n => t - n) (a := 0) (Nat.zero_le _) (Wkn.to ⟨0, [(0, 0)], [], 1, [1, 2, 5, 7, 8]⟩ rfl rfl (by simp only [Wk.st, keepT, sub1, subs, Wk.hp, ABlk.sub, S88, sumF]; try rfl)) ?_
  intro f n hn go
  rcases Nat.lt_or_ge n t with h1 | h1
  · have e1 : decide ((n : Int) < (t : Int)) = true := lt_t h1
    have e3 : IntKind.wrap .i64 ((n : Int) + 1) = (n : Int) + 1 := wrap64 (by omega) (by omega)
    have hs := stp_mul h h1 ht
    have hb := sumF_le30 h ht n (by omega)
    have hp := stp_pos h h1 ht
    have e4 : IntKind.wrap .i64 (((n : Int) + 1) * a) = ((n : Int) + 1) * a := wrap64 (by omega) (by omega)
    have e5 : IntKind.wrap .i64 ((t : Int) - n) = (t : Int) - n := wrap64 (by omega) (by omega)
    have e6 : IntKind.wrap .i64 (((t : Int) - n) * a) = ((t : Int) - n) * a := wrap64 (by omega) (by omega)
    have e7 : min (min r (((n : Int) + 1) * a)) (((t : Int) - n) * a) = stp r a t n := rfl
    have e8 : IntKind.wrap .i64 (sumF (stp r a t) n + stp r a t n) = sumF (stp r a t) (n + 1) := by rw [wrap64 (by omega) (by omega)]; rfl
    simp +contextual -implicitDefEqProofs (maxSteps := 2000000) only [S88, e1, e3, e4, e5, e6, e7, e8, ruB, rh_no, Int.reduceLT, Int.reduceLE, Int.reduceAdd, Int.reduceSub, Int.reduceMul, Int.reduceNeg, Int.reduceToNat, Int.reduceEq, Int.reduceNe, Int.reduceTDiv, Int.reduceTMod, implies_true, putL, appN, appX, appC, Eng.Fi, reduceCtorEq, exists_eq_left', exists_eq_left, if_true, if_false, List.replicate, Nat.reduceAdd, Nat.reduceSub, Nat.reduceMul, Nat.reduceLeDiff, Nat.reduceLT, Nat.reduceEqDiff]
    exact go _ (n + 1) h1 (by omega) (Wkn.to ⟨0, [(0, 0)], [], 1, [1, 2, 5, 7, 8]⟩ rfl rfl (by simp only [Wk.st, keepT, sub1, subs, Wk.hp, ABlk.sub, S88]; try rfl))
  · have e1 : decide ((n : Int) < (t : Int)) = false := lt_f h1
    obtain rfl : n = t := by omega
    simp +contextual -implicitDefEqProofs (maxSteps := 2000000) only [S88, e1, rch, ruB, rh_no, Int.reduceLT, Int.reduceLE, Int.reduceAdd, Int.reduceSub, Int.reduceMul, Int.reduceNeg, Int.reduceToNat, Int.reduceEq, Int.reduceNe, Int.reduceTDiv, Int.reduceTMod, implies_true, putL, appN, appX, appC, Eng.Fi, reduceCtorEq, exists_eq_left', exists_eq_left, if_true, if_false, List.replicate, Nat.reduceAdd, Nat.reduceSub, Nat.reduceMul, Nat.reduceLeDiff, Nat.reduceLT, Nat.reduceEqDiff]
def cf_reach : List AV → Option AV
  | [.agg [.int .i64 r, .int .i64 a], .int .i64 t] => if axR r a ∧ 0 ≤ t ∧ t ≤ 100000 then some (I (rch r a t.toNat)) else none
  | _ => none
theorem g_reach : Fn P 88 cf_reach := fun args v h => by
  unfold cf_reach at h; split at h
  · split at h
    · rename_i r a t hc
      cases h
      have := k_reach r a t.toNat hc.1 (by omega)
      rwa [Int.toNat_of_nonneg hc.2.1] at this
    · cases h
  · cases h
theorem x_reach (r a : Int) (t : Nat) (h : axR r a) (ht : t ≤ 100000) : cf_reach [.agg [.int .i64 r, .int .i64 a], .int .i64 (t : Int)] = some (.int .i64 (rch r a t)) := by
  show (if _ then _ else _) = _
  rw [if_pos ⟨h, by omega, by omega⟩, Int.toNat_natCast]
def S39 (r a : Int) (t : Nat) (n : Nat) : AState := ⟨[.any, I t, .ptr 0 2 0 0, .any, .any, I (sumF (stp r a t) n), I ((n + 1 : Nat) : Int), .any, .any, .any, .any, .any, .any, .any, .any, .any, .any, .any, .any, .any, .any, .any, .any, .any, .any, .any, .any, .any, .any, .any], [⟨0, 0, .rows 39 2 [.agg [I r, I a]]⟩], 1⟩
theorem k_rReach (r a : Int) (t : Nat) (h : axR r a) (ht : t ≤ 100000) : FOk P 39 [.agg [I r, I a], I t] (I (rch r a t)) := by
  refine c39.fok rfl (Cor.run (noC_good _) (noHx_good _) hm ?_)
  simp +contextual -implicitDefEqProofs (maxSteps := 2000000) only [bg_eq, a39, ruB, rh_no, Int.reduceLT, Int.reduceLE, Int.reduceAdd, Int.reduceSub, Int.reduceMul, Int.reduceNeg, Int.reduceToNat, Int.reduceEq, Int.reduceNe, Int.reduceTDiv, Int.reduceTMod, implies_true, putL, appN, appX, appC, Eng.Fi, reduceCtorEq, exists_eq_left', exists_eq_left, if_true, if_false, List.replicate, Nat.reduceAdd, Nat.reduceSub, Nat.reduceMul, Nat.reduceLeDiff, Nat.reduceLT, Nat.reduceEqDiff]
  refine Cor.lp (noC_good _) (noHx_good _) hm (S39 r a t) (fun n => n ≤ t) (fun n => t - n) (a := 0) (Nat.zero_le _) (Wkn.to ⟨0, [(0, 0)], [], 1, [1, 2, 5, 6]⟩ rfl rfl (by simp only [Wk.st, keepT, sub1, subs, Wk.hp, ABlk.sub, S39, sumF]; try rfl)) ?_
  intro f n hn go
  rcases Nat.lt_or_ge n t with h1 | h1
  · have e1 : decide (((n + 1 : Nat) : Int) ≤ (t : Int)) = true := by simp; omega
    have e3 : IntKind.wrap .i64 (((n + 1 : Nat) : Int) + 1) = ((n + 1 + 1 : Nat) : Int) := suc_w (by omega)
    have hs := stp_mul h h1 ht
    have hb := sumF_le30 h ht n (by omega)
    have hp := stp_pos h h1 ht
    have ec : ((n + 1 : Nat) : Int) = (n : Int) + 1 := by omega
    have e4 : IntKind.wrap .i64 (((n + 1 : Nat) : Int) * a) = ((n : Int) + 1) * a := by rw [ec]; exact wrap64 (by omega) (by omega)
    have e5 : IntKind.wrap .i64 ((t : Int) + 1) = (t : Int) + 1 := wrap64 (by omega) (by omega)
    have e5' : IntKind.wrap .i64 ((t : Int) + 1 - ((n + 1 : Nat) : Int)) = (t : Int) - n := by rw [wrap64 (by omega) (by omega)]; omega
    have e6 : IntKind.wrap .i64 (((t : Int) - n) * a) = ((t : Int) - n) * a := wrap64 (by omega) (by omega)
    have e7 : min r (min (((n : Int) + 1) * a) (((t : Int) - n) * a)) = stp r a t n := by unfold stp; omega
    have e8 : IntKind.wrap .i64 (sumF (stp r a t) n + stp r a t n) = sumF (stp r a t) (n + 1) := by rw [wrap64 (by omega) (by omega)]; rfl
    simp +contextual -implicitDefEqProofs (maxSteps := 2000000) only [S39, e1, e3, e4, e5, e5', e6, e7, e8, ruB, rh_no, Int.reduceLT, Int.reduceLE, Int.reduceAdd, Int.reduceSub, Int.reduceMul, Int.reduceNeg, Int.reduceToNat, Int.reduceEq, Int.reduceNe, Int.reduceTDiv, Int.reduceTMod, implies_true, putL, appN, appX, appC, Eng.Fi, reduceCtorEq, exists_eq_left', exists_eq_left, if_true, if_false, List.replicate, Nat.reduceAdd, Nat.reduceSub, Nat.reduceMul, Nat.reduceLeDiff, Nat.reduceLT, Nat.reduceEqDiff]
    exact go _ (n + 1) h1 (by omega) (Wkn.to ⟨0, [(0, 0)], [], 1, [1, 2, 5, 6]⟩ rfl rfl (by simp only [Wk.st, keepT, sub1, subs, Wk.hp, ABlk.sub, S39]; try rfl))
  · have e1 : decide (((n + 1 : Nat) : Int) ≤ (t : Int)) = false := by simp; omega
    obtain rfl : n = t := by omega
    simp +contextual -implicitDefEqProofs (maxSteps := 2000000) only [S39, e1, rch, ruB, rh_no, Int.reduceLT, Int.reduceLE, Int.reduceAdd, Int.reduceSub, Int.reduceMul, Int.reduceNeg, Int.reduceToNat, Int.reduceEq, Int.reduceNe, Int.reduceTDiv, Int.reduceTMod, implies_true, putL, appN, appX, appC, Eng.Fi, reduceCtorEq, exists_eq_left', exists_eq_left, if_true, if_false, List.replicate, Nat.reduceAdd, Nat.reduceSub, Nat.reduceMul, Nat.reduceLeDiff, Nat.reduceLT, Nat.reduceEqDiff]
def cf_rReach : List AV → Option AV
  | [.agg [.int .i64 r, .int .i64 a], .int .i64 t] => if axR r a ∧ 0 ≤ t ∧ t ≤ 100000 then some (I (rch r a t.toNat)) else none
  | _ => none
theorem g_rReach : Fn P 39 cf_rReach := fun args v h => by
  unfold cf_rReach at h; split at h
  · split at h
    · rename_i r a t hc
      cases h
      have := k_rReach r a t.toNat hc.1 (by omega)
      rwa [Int.toNat_of_nonneg hc.2.1] at this
    · cases h
  · cases h
theorem x_rReach (r a : Int) (t : Nat) (h : axR r a) (ht : t ≤ 100000) : cf_rReach [.agg [.int .i64 r, .int .i64 a], .int .i64 (t : Int)] = some (.int .i64 (rch r a t)) := by
  show (if _ then _ else _) = _
  rw [if_pos ⟨h, by omega, by omega⟩, Int.toNat_natCast]
def S89 (r a d : Int) (n : Nat) : AState := ⟨[.any, I d, .ptr 0 2 0 0, .any, .any, I n, .any, .any, .any, .any, .any, .any, .any, .any], [⟨0, 0, .rows 39 2 [.agg [I r, I a]]⟩], 1⟩
theorem k_ticksFor (r a d : Int) (h : axR r a) (hd : 0 ≤ d ∧ d ≤ 1000) : FOk P 89 [.agg [I r, I a], I d] (I (tkL r a d)) := by
  refine c89.fok rfl (Cor.run (addC_good g_reach (noC_good _)) (noHx_good _) hm ?_)
  simp +contextual -implicitDefEqProofs (maxSteps := 2000000) only [bg_eq, a89, ruB, rh_no, Int.reduceLT, Int.reduceLE, Int.reduceAdd, Int.reduceSub, Int.reduceMul, Int.reduceNeg, Int.reduceToNat, Int.reduceEq, Int.reduceNe, Int.reduceTDiv, Int.reduceTMod, implies_true, putL, appN, appX, appC, Eng.Fi, reduceCtorEq, exists_eq_left', exists_eq_left, if_true, if_false, List.replicate, Nat.reduceAdd, Nat.reduceSub, Nat.reduceMul, Nat.reduceLeDiff, Nat.reduceLT, Nat.reduceEqDiff]
  obtain ⟨t1, t2, t3⟩ := tkL_spec h hd
  refine Cor.lp (addC_good g_reach (noC_good _)) (noHx_good _) hm (S89 r a d) (fun n => n ≤ tkL r a d) (fun n => tkL r a d - n) (a := 0) (Nat.zero_le _) (Wkn.to ⟨0, [(0, 0)], [], 1, [1, 2, 5]⟩ rfl rfl (by simp only [Wk.st, keepT, sub1, subs, Wk.hp, ABlk.sub, S89]; try rfl)) ?_
  intro f n hn go
  have y := x_reach r a n h (by omega)
  have e3 : IntKind.wrap .i64 ((n : Int) + 1) = ((n + 1 : Nat) : Int) := suc_w (by omega)
  rcases Nat.lt_or_ge n (tkL r a d) with h1 | h1
  · have e1 := t2 n h1
    simp +contextual -implicitDefEqProofs (maxSteps := 2000000) only [S89, y, e1, e3, ruB, rh_no, Int.reduceLT, Int.reduceLE, Int.reduceAdd, Int.reduceSub, Int.reduceMul, Int.reduceNeg, Int.reduceToNat, Int.reduceEq, Int.reduceNe, Int.reduceTDiv, Int.reduceTMod, implies_true, putL, appN, appX, appC, Eng.Fi, reduceCtorEq, exists_eq_left', exists_eq_left, if_true, if_false, List.replicate, Nat.reduceAdd, Nat.reduceSub, Nat.reduceMul, Nat.reduceLeDiff, Nat.reduceLT, Nat.reduceEqDiff]
    exact go _ (n + 1) h1 (by omega) (Wkn.to ⟨0, [(0, 0)], [], 1, [1, 2, 5]⟩ rfl rfl (by simp only [Wk.st, keepT, sub1, subs, Wk.hp, ABlk.sub, S89]; try rfl))
  · have hn : n = tkL r a d := by omega
    rw [← hn] at t1 ⊢
    have e1 : (rch r a n < d) = False := by simp only [eq_iff_iff, iff_false]; omega
    simp +contextual -implicitDefEqProofs (maxSteps := 2000000) only [S89, y, e1, ruB, rh_no, Int.reduceLT, Int.reduceLE, Int.reduceAdd, Int.reduceSub, Int.reduceMul, Int.reduceNeg, Int.reduceToNat, Int.reduceEq, Int.reduceNe, Int.reduceTDiv, Int.reduceTMod, implies_true, putL, appN, appX, appC, Eng.Fi, reduceCtorEq, exists_eq_left', exists_eq_left, if_true, if_false, List.replicate, Nat.reduceAdd, Nat.reduceSub, Nat.reduceMul, Nat.reduceLeDiff, Nat.reduceLT, Nat.reduceEqDiff]
def cf_ticksFor : List AV → Option AV
  | [.agg [.int .i64 r, .int .i64 a], .int .i64 d] => if axR r a ∧ 0 ≤ d ∧ d ≤ 1000 then some (I (tkL r a d)) else none
  | _ => none
theorem g_ticksFor : Fn P 89 cf_ticksFor := fun args v h => by
  unfold cf_ticksFor at h; split at h
  · split at h
    · rename_i hc; cases h; exact k_ticksFor _ _ _ hc.1 hc.2
    · cases h
  · cases h
theorem x_ticksFor (r a d : Int) (h : (axR r a ∧ 0 ≤ d ∧ d ≤ 1000) = True) : cf_ticksFor [.agg [.int .i64 r, .int .i64 a], .int .i64 d] = some (.int .i64 (tkL r a d)) := by simp only [cf_ticksFor, h, if_true]
def S40 (r a d : Int) (n : Nat) : AState := ⟨[.any, I d, .ptr 0 2 0 0, .any, .any, I n, .any, .any, .any, .any, .any, .any, .any, .any], [⟨0, 0, .rows 39 2 [.agg [I r, I a]]⟩], 1⟩
theorem k_rTicks (r a d : Int) (h : axR r a) (hd : 0 ≤ d ∧ d ≤ 1000) : FOk P 40 [.agg [I r, I a], I d] (I (tkL r a d)) := by
  refine c40.fok rfl (Cor.run (addC_good g_rReach (noC_good _)) (noHx_good _) hm ?_)
  simp +contextual -implicitDefEqProofs (maxSteps := 2000000) only [bg_eq, a40, ruB, rh_no, Int.reduceLT, Int.reduceLE, Int.reduceAdd, Int.reduceSub, Int.reduceMul, Int.reduceNeg, Int.reduceToNat, Int.reduceEq, Int.reduceNe, Int.reduceTDiv, Int.reduceTMod, implies_true, putL, appN, appX, appC, Eng.Fi, reduceCtorEq, exists_eq_left', exists_eq_left, if_true, if_false, List.replicate, Nat.reduceAdd, Nat.reduceSub, Nat.reduceMul, Nat.reduceLeDiff, Nat.reduceLT, Nat.reduceEqDiff]
  obtain ⟨t1, t2, t3⟩ := tkL_spec h hd
  refine Cor.lp (addC_good g_rReach (noC_good _)) (noHx_good _) hm (S40 r a d) (fun n => n ≤ tkL r a d) (fun n => tkL r a d - n) (a := 0) (Nat.zero_le _) (Wkn.to ⟨0, [(0, 0)], [], 1, [1, 2, 5]⟩ rfl rfl (by simp only [Wk.st, keepT, sub1, subs, Wk.hp, ABlk.sub, S40]; try rfl)) ?_
  intro f n hn go
  have y := x_rReach r a n h (by omega)
  have e3 : IntKind.wrap .i64 ((n : Int) + 1) = ((n + 1 : Nat) : Int) := suc_w (by omega)
  rcases Nat.lt_or_ge n (tkL r a d) with h1 | h1
  · have e1 := t2 n h1
    simp +contextual -implicitDefEqProofs (maxSteps := 2000000) only [S40, y, e1, e3, ruB, rh_no, Int.reduceLT, Int.reduceLE, Int.reduceAdd, Int.reduceSub, Int.reduceMul, Int.reduceNeg, Int.reduceToNat, Int.reduceEq, Int.reduceNe, Int.reduceTDiv, Int.reduceTMod, implies_true, putL, appN, appX, appC, Eng.Fi, reduceCtorEq, exists_eq_left', exists_eq_left, if_true, if_false, List.replicate, Nat.reduceAdd, Nat.reduceSub, Nat.reduceMul, Nat.reduceLeDiff, Nat.reduceLT, Nat.reduceEqDiff]
    exact go _ (n + 1) h1 (by omega) (Wkn.to ⟨0, [(0, 0)], [], 1, [1, 2, 5]⟩ rfl rfl (by simp only [Wk.st, keepT, sub1, subs, Wk.hp, ABlk.sub, S40]; try rfl))
  · have hn : n = tkL r a d := by omega
    rw [← hn] at t1 ⊢
    have e1 : (rch r a n < d) = False := by simp only [eq_iff_iff, iff_false]; omega
    simp +contextual -implicitDefEqProofs (maxSteps := 2000000) only [S40, y, e1, ruB, rh_no, Int.reduceLT, Int.reduceLE, Int.reduceAdd, Int.reduceSub, Int.reduceMul, Int.reduceNeg, Int.reduceToNat, Int.reduceEq, Int.reduceNe, Int.reduceTDiv, Int.reduceTMod, implies_true, putL, appN, appX, appC, Eng.Fi, reduceCtorEq, exists_eq_left', exists_eq_left, if_true, if_false, List.replicate, Nat.reduceAdd, Nat.reduceSub, Nat.reduceMul, Nat.reduceLeDiff, Nat.reduceLT, Nat.reduceEqDiff]
def cf_rTicks : List AV → Option AV
  | [.agg [.int .i64 r, .int .i64 a], .int .i64 d] => if axR r a ∧ 0 ≤ d ∧ d ≤ 1000 then some (I (tkL r a d)) else none
  | _ => none
theorem g_rTicks : Fn P 40 cf_rTicks := fun args v h => by
  unfold cf_rTicks at h; split at h
  · split at h
    · rename_i hc; cases h; exact k_rTicks _ _ _ hc.1 hc.2
    · cases h
  · cases h
theorem x_rTicks (r a d : Int) (h : (axR r a ∧ 0 ≤ d ∧ d ≤ 1000) = True) : cf_rTicks [.agg [.int .i64 r, .int .i64 a], .int .i64 d] = some (.int .i64 (tkL r a d)) := by simp only [cf_rTicks, h, if_true]
theorem axE_zero {r a : Int} (h : axE r a = 0) : axR r a := unl_zero h (by decide)
def tfE (r a d : Int) : Int := firstE [axE r a, unl (0 ≤ d ∧ d ≤ 360) 2]
def tfV (r a d : Int) : AV := if tfE r a d = 0 then .tup [I (tkL r a d), I 0] else .tup [I 0, I (tfE r a d)]
theorem k_TicksFor (r a d : Int) : FOk P 36 [.agg [I r, I a], I d] (tfV r a d) := by
  by_cases h : tfE r a d = 0
  · have h' := h
    unfold tfE at h'
    have ha := axE_zero (firstE_zero h' _ (by simp : axE r a ∈ _))
    have ht := unl_zero (firstE_zero h' (unl (0 ≤ d ∧ d ≤ 360) 2) (by simp)) (by decide)
    have y := x_ticksFor r a d (by simp only [eq_iff_iff, iff_true]; exact ⟨ha, ht.1, by omega⟩)
    refine c36.fok rfl (Cor.run (addC_good g_ticksFor (addC_good g_first (addC_good g_unless (addC_good g_within (addC_good g_CheckAxis (noC_good _)))))) (noHx_good _) hm ?_)
    simp +contextual -implicitDefEqProofs (maxSteps := 2000000) only [bg_eq, a36, x_CheckAxis, x_within, x_unless, x_first, y_first, h', y, tfV, h, ruB, rh_no, Int.reduceLT, Int.reduceLE, Int.reduceAdd, Int.reduceSub, Int.reduceMul, Int.reduceNeg, Int.reduceToNat, Int.reduceEq, Int.reduceNe, Int.reduceTDiv, Int.reduceTMod, implies_true, putL, appN, appX, appC, Eng.Fi, reduceCtorEq, exists_eq_left', exists_eq_left, if_true, if_false, List.replicate, Nat.reduceAdd, Nat.reduceSub, Nat.reduceMul, Nat.reduceLeDiff, Nat.reduceLT, Nat.reduceEqDiff]
  · have h' := h
    unfold tfE at h'
    refine c36.fok rfl (Cor.run (addC_good g_ticksFor (addC_good g_first (addC_good g_unless (addC_good g_within (addC_good g_CheckAxis (noC_good _)))))) (noHx_good _) hm ?_)
    simp +contextual -implicitDefEqProofs (maxSteps := 2000000) only [bg_eq, a36, x_CheckAxis, x_within, x_unless, x_first, y_first, h', tfV, tfE, h, not_false_eq_true, ruB, rh_no, Int.reduceLT, Int.reduceLE, Int.reduceAdd, Int.reduceSub, Int.reduceMul, Int.reduceNeg, Int.reduceToNat, Int.reduceEq, Int.reduceNe, Int.reduceTDiv, Int.reduceTMod, implies_true, putL, appN, appX, appC, Eng.Fi, reduceCtorEq, exists_eq_left', exists_eq_left, if_true, if_false, List.replicate, Nat.reduceAdd, Nat.reduceSub, Nat.reduceMul, Nat.reduceLeDiff, Nat.reduceLT, Nat.reduceEqDiff]
def cf_TicksFor : List AV → Option AV
  | [.agg [.int .i64 r, .int .i64 a], .int .i64 d] => some (tfV r a d)
  | _ => none
theorem g_TicksFor : Fn P 36 cf_TicksFor := fun args v h => by
  unfold cf_TicksFor at h; split at h
  · have h := Option.some.inj h; subst h; exact k_TicksFor _ _ _
  · cases h
theorem x_TicksFor (r a d : Int) : cf_TicksFor [.agg [.int .i64 r, .int .i64 a], .int .i64 d] = some (tfV r a d) := rfl
end Sc
