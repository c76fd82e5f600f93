import Derived.Test.YtabkbhpeeefmgabEngS9
import Derived.Test.YtabkbhpeeefmgabW901
open Go Go.Proofs Eng
set_option maxRecDepth 100000
set_option linter.unusedSimpArgs false
set_option linter.unusedVariables false
def a14 : AC := .seq (.ops false [] [⟨some 3, .box 40 6 1 true, [.t 0], none⟩, ⟨some 4, .box 45 6 1 true, [.t 1], none⟩, ⟨some 5, .box 47 7 1 true, [.t 2], none⟩, ⟨some 6, .p (.mov), [.c (.int .i64 0)], none⟩, ⟨some 7, .p (.mov), [.c (.int .i64 0)], none⟩]) (.seq (.seq (.ops false [] [⟨some 12, .load 6 true, [.t 3], none⟩, ⟨some 13, .load 6 true, [.t 4], none⟩, ⟨some 14, .load 7 true, [.t 5], none⟩, ⟨some 15, .call 51, [.t 12, .t 13, .t 14], none⟩, ⟨some 8, .p (.mov), [.t 15], none⟩]) (.seq (.ops false [] [⟨some 16, .p (.mov), [.t 8], none⟩, ⟨some 17, .p (.binI .neq), [.t 16, .c (.int .i64 0)], none⟩]) (.cond (.t 17) (.seq (.ops false [] [⟨some 18, .p (.mov), [.t 8], none⟩, ⟨some 6, .p (.mov), [.c (.int .i64 0)], none⟩, ⟨some 7, .p (.mov), [.t 18], none⟩]) (.ret)) (.skip)))) (.seq (.ops false [] [⟨some 9, .p (.mov), [.c (.int .i64 2)], none⟩]) (.seq (.seq (.ops false [] [⟨some 19, .p (.faddr 5), [.t 5], none⟩, ⟨some 20, .load 1 false, [.t 19], none⟩, ⟨some 10, .p (.mov), [.t 20], none⟩]) (.block 0 (.loop (.seq (.seq (.ops false [] [⟨some 21, .p (.mov), [.t 10], none⟩, ⟨some 22, .p (.faddr 6), [.t 5], none⟩, ⟨some 23, .load 1 false, [.t 22], none⟩, ⟨some 24, .p (.binI .leq), [.t 21, .t 23], none⟩]) (.cond (.t 24) (.skip) (.exit 0))) (.seq (.block 1 (.seq (.ops false [] [⟨some 27, .load 6 true, [.t 3], none⟩, ⟨some 28, .load 6 true, [.t 4], none⟩, ⟨some 29, .p (.mov), [.t 10], none⟩, ⟨some 30, .call 52, [.t 27, .t 28, .t 29], none⟩, ⟨some 11, .alloc 40 6 [.agg [.int .i64 0, .int .i64 0, .int .i64 0, .int .i64 0, .int .i64 0, .int .i64 0]], [], none⟩, ⟨none, .store 6 true, [.t 11, .t 30], none⟩]) (.seq (.seq (.ops false [] [⟨some 31, .load 6 true, [.t 11], none⟩, ⟨some 32, .load 7 true, [.t 5], none⟩, ⟨some 33, .call 53, [.t 31, .t 32], none⟩]) (.cond (.t 33) (.seq (.ops false [] [⟨some 6, .p (.mov), [.c (.int .i64 0)], none⟩, ⟨some 7, .p (.mov), [.c (.int .i64 0)], none⟩]) (.ret)) (.skip))) (.seq (.ops false [] [⟨some 34, .load 6 true, [.t 11], none⟩, ⟨some 35, .load 7 true, [.t 5], none⟩, ⟨some 36, .call 54, [.t 34, .t 35], none⟩]) (.cond (.t 36) (.ops false [] [⟨some 9, .p (.mov), [.c (.int .i64 1)], none⟩]) (.skip)))))) (.ops false [] [⟨some 25, .p (.mov), [.t 10], none⟩, ⟨some 26, .p (.binI .add), [.t 25, .c (.int .i64 1)], none⟩, ⟨some 10, .p (.mov), [.t 26], none⟩])))))) (.seq (.ops false [] [⟨some 37, .p (.mov), [.t 9], none⟩, ⟨some 6, .p (.mov), [.t 37], none⟩, ⟨some 7, .p (.mov), [.c (.int .i64 0)], none⟩]) (.ret)))))
theorem c14 : FnC Try.prog 14 38 a14 [.tmp 6, .tmp 7] := ⟨Try.call14, _, _, Try.func14, rfl, by kernel_rfl, by kernel_rfl, rfl⟩
def a15 : AC := .seq (.ops false [] [⟨some 3, .box 40 6 1 true, [.t 0], none⟩, ⟨some 4, .box 45 6 1 true, [.t 1], none⟩, ⟨some 5, .box 47 7 1 true, [.t 2], none⟩, ⟨some 6, .p (.mov), [.c (.int .i64 0)], none⟩, ⟨some 7, .p (.mov), [.c (.int .i64 0)], none⟩]) (.seq (.seq (.ops false [] [⟨some 10, .load 6 true, [.t 3], none⟩, ⟨some 11, .load 6 true, [.t 4], none⟩, ⟨some 12, .load 7 true, [.t 5], none⟩, ⟨some 13, .call 51, [.t 10, .t 11, .t 12], none⟩, ⟨some 8, .p (.mov), [.t 13], none⟩]) (.seq (.ops false [] [⟨some 14, .p (.mov), [.t 8], none⟩, ⟨some 15, .p (.binI .neq), [.t 14, .c (.int .i64 0)], none⟩]) (.cond (.t 15) (.seq (.ops false [] [⟨some 16, .p (.mov), [.t 8], none⟩, ⟨some 6, .p (.mov), [.c (.int .i64 0)], none⟩, ⟨some 7, .p (.mov), [.t 16], none⟩]) (.ret)) (.skip)))) (.seq (.ops false [] [⟨some 17, .p (.faddr 6), [.t 5], none⟩, ⟨some 18, .load 1 false, [.t 17], none⟩, ⟨some 9, .p (.mov), [.t 18], none⟩]) (.seq (.block 0 (.loop (.seq (.seq (.ops true [] [⟨some 19, .p (.mov), [.t 9], none⟩, ⟨some 20, .p (.faddr 5), [.t 5], none⟩, ⟨some 21, .load 1 false, [.t 20], none⟩, ⟨some 22, .p (.binI .geq), [.t 19, .t 21], none⟩, ⟨some 23, .p (.mov), [.t 22], none⟩, ⟨some 24, .load 6 true, [.t 3], some (23, true)⟩, ⟨some 25, .load 6 true, [.t 4], some (23, true)⟩, ⟨some 26, .p (.mov), [.t 9], some (23, true)⟩, ⟨some 27, .call 52, [.t 24, .t 25, .t 26], some (23, true)⟩, ⟨some 28, .load 7 true, [.t 5], some (23, true)⟩, ⟨some 29, .call 54, [.t 27, .t 28], some (23, true)⟩, ⟨some 30, .p (.notB), [.t 29], some (23, true)⟩, ⟨some 31, .p (.pick), [.t 23, .t 30, .c (.bool false)], none⟩]) (.cond (.t 31) (.skip) (.exit 0))) (.block 1 (.ops false [] [⟨some 32, .p (.mov), [.t 9], none⟩, ⟨some 33, .p (.binI .sub), [.t 32, .c (.int .i64 1)], none⟩, ⟨some 9, .p (.mov), [.t 33], none⟩]))))) (.seq (.seq (.ops false [] [⟨some 34, .p (.mov), [.t 9], none⟩, ⟨some 35, .p (.faddr 6), [.t 5], none⟩, ⟨some 36, .load 1 false, [.t 35], none⟩, ⟨some 37, .p (.binI .eql), [.t 34, .t 36], none⟩]) (.cond (.t 37) (.seq (.ops false [] [⟨some 6, .p (.mov), [.c (.int .i64 0)], none⟩, ⟨some 7, .p (.mov), [.c (.int .i64 12)], none⟩]) (.ret)) (.skip))) (.seq (.ops false [] [⟨some 38, .p (.mov), [.t 9], none⟩, ⟨some 39, .p (.binI .add), [.t 38, .c (.int .i64 1)], none⟩, ⟨some 6, .p (.mov), [.t 39], none⟩, ⟨some 7, .p (.mov), [.c (.int .i64 0)], none⟩]) (.ret))))))
theorem c15 : FnC Try.prog 15 40 a15 [.tmp 6, .tmp 7] := ⟨Try.call15, _, _, Try.func15, rfl, by kernel_rfl, by kernel_rfl, rfl⟩
def a16 : AC := .seq (.ops false [] [⟨some 3, .box 40 6 1 true, [.t 0], none⟩, ⟨some 4, .box 45 6 1 true, [.t 1], none⟩, ⟨some 6, .p (.mov), [.c (.int .i64 0)], none⟩, ⟨some 7, .p (.mov), [.c (.int .i64 0)], none⟩]) (.seq (.seq (.ops true [] [⟨some 13, .load 6 true, [.t 3], none⟩, ⟨some 14, .call 55, [.t 13], none⟩, ⟨some 15, .load 6 true, [.t 4], none⟩, ⟨some 16, .call 56, [.t 15], none⟩, ⟨some 17, .p (.mov), [.t 2], none⟩, ⟨some 18, .p (.lenS), [.t 17], none⟩, ⟨some 19, .p (.binI .gtr), [.t 18, .c (.int .i64 0)], none⟩, ⟨some 20, .call 44, [.t 19, .c (.int .i64 10)], none⟩, ⟨some 21, .p (.mov), [.t 2], none⟩, ⟨some 22, .p (.lenS), [.t 21], none⟩, ⟨some 23, .p (.binI .leq), [.t 22, .c (.int .i64 1001)], none⟩, ⟨some 24, .call 44, [.t 23, .c (.int .i64 8)], none⟩, ⟨some 25, .fbs 1, [.t 14, .t 16, .t 20, .t 24], none⟩, ⟨some 26, .call 43, [.t 25], none⟩, ⟨some 8, .p (.mov), [.t 26], none⟩]) (.seq (.ops false [] [⟨some 27, .p (.mov), [.t 8], none⟩, ⟨some 28, .p (.binI .neq), [.t 27, .c (.int .i64 0)], none⟩]) (.cond (.t 28) (.seq (.ops false [] [⟨some 29, .p (.mov), [.t 8], none⟩, ⟨some 6, .p (.mov), [.c (.int .i64 0)], none⟩, ⟨some 7, .p (.mov), [.t 29], none⟩]) (.ret)) (.skip)))) (.seq (.seq (.ops true [] [⟨some 30, .load 6 true, [.t 3], none⟩, ⟨some 31, .p (.mov), [.t 2], none⟩, ⟨some 32, .p (.iaddrS 3), [.t 31, .c (.int .i64 0)], none⟩, ⟨some 33, .load 3 true, [.t 32], none⟩, ⟨some 34, .call 57, [.t 30, .t 33], none⟩, ⟨some 35, .p (.notB), [.t 34], none⟩]) (.cond (.t 35) (.seq (.ops false [] [⟨some 6, .p (.mov), [.c (.int .i64 0)], none⟩, ⟨some 7, .p (.mov), [.c (.int .i64 17)], none⟩]) (.ret)) (.skip))) (.seq (.seq (.ops false [] [⟨some 36, .p (.mov), [.t 2], none⟩, ⟨some 37, .p (.slc 3 true false false), [.t 36, .c (.int .i64 1)], none⟩, ⟨some 38, .p (.lenS), [.t 37], none⟩, ⟨some 39, .p (.mov), [.c (.int .i64 0)], none⟩]) (.block 0 (.loop (.seq (.ops false [] [⟨some 40, .p (.binI .lss), [.t 39, .t 38], none⟩]) (.seq (.cond (.t 40) (.skip) (.exit 0)) (.seq (.block 1 (.seq (.ops false [] [⟨some 41, .p (.mov), [.t 39], none⟩, ⟨some 42, .p (.iaddrS 3), [.t 37, .t 39], none⟩, ⟨some 43, .load 3 true, [.t 42], none⟩, ⟨some 10, .alloc 57 3 [.agg [.int .i64 0, .int .i64 0, .int .i64 0]], [], none⟩, ⟨some 9, .p (.mov), [.t 41], none⟩, ⟨none, .store 3 true, [.t 10, .t 43], none⟩]) (.seq (.ops false [] [⟨some 44, .p (.mov), [.t 2], none⟩, ⟨some 45, .p (.mov), [.t 9], none⟩, ⟨some 46, .p (.iaddrS 3), [.t 44, .t 45], none⟩, ⟨some 47, .load 3 true, [.t 46], none⟩, ⟨some 11, .alloc 57 3 [.agg [.int .i64 0, .int .i64 0, .int .i64 0]], [], none⟩, ⟨none, .store 3 true, [.t 11, .t 47], none⟩]) (.seq (.ops false [] [⟨some 48, .p (.faddr 0), [.t 10], none⟩, ⟨some 49, .p (.faddr 0), [.t 48], none⟩, ⟨some 50, .load 1 false, [.t 49], none⟩, ⟨some 51, .p (.faddr 0), [.t 11], none⟩, ⟨some 52, .p (.faddr 0), [.t 51], none⟩, ⟨some 53, .load 1 false, [.t 52], none⟩, ⟨some 54, .p (.faddr 0), [.t 4], none⟩, ⟨some 55, .p (.faddr 0), [.t 54], none⟩, ⟨some 56, .load 1 false, [.t 55], none⟩, ⟨some 57, .p (.binI .add), [.t 53, .t 56], none⟩, ⟨some 58, .p (.faddr 0), [.t 11], none⟩, ⟨some 59, .p (.faddr 0), [.t 58], none⟩, ⟨some 60, .load 1 false, [.t 59], none⟩, ⟨some 61, .p (.faddr 0), [.t 4], none⟩, ⟨some 62, .p (.faddr 1), [.t 61], none⟩, ⟨some 63, .load 1 false, [.t 62], none⟩, ⟨some 64, .p (.binI .add), [.t 60, .t 63], none⟩, ⟨some 65, .call 45, [.t 50, .t 57, .t 64], none⟩, ⟨some 12, .p (.mov), [.t 65], none⟩]) (.seq (.ops false [] [⟨some 66, .p (.mov), [.t 12], none⟩, ⟨some 67, .p (.notB), [.t 66], none⟩, ⟨some 68, .p (.mov), [.t 67], none⟩, ⟨some 69, .p (.faddr 0), [.t 11], some (68, false)⟩, ⟨some 70, .p (.faddr 1), [.t 69], some (68, false)⟩, ⟨some 71, .load 1 false, [.t 70], some (68, false)⟩, ⟨some 72, .p (.faddr 0), [.t 10], some (68, false)⟩, ⟨some 73, .p (.faddr 1), [.t 72], some (68, false)⟩, ⟨some 74, .load 1 false, [.t 73], some (68, false)⟩, ⟨some 75, .p (.faddr 2), [.t 4], some (68, false)⟩, ⟨some 76, .load 2 true, [.t 75], some (68, false)⟩, ⟨some 77, .call 58, [.t 71, .t 74, .t 76], some (68, false)⟩, ⟨some 78, .p (.notB), [.t 77], some (68, false)⟩, ⟨some 79, .p (.pick), [.t 68, .c (.bool true), .t 78], none⟩, ⟨some 80, .p (.mov), [.t 79], none⟩, ⟨some 81, .p (.faddr 2), [.t 11], some (80, false)⟩, ⟨some 82, .load 1 false, [.t 81], some (80, false)⟩, ⟨some 83, .p (.faddr 2), [.t 10], some (80, false)⟩, ⟨some 84, .load 1 false, [.t 83], some (80, false)⟩, ⟨some 85, .p (.faddr 4), [.t 4], some (80, false)⟩, ⟨some 86, .load 2 true, [.t 85], some (80, false)⟩, ⟨some 87, .call 58, [.t 82, .t 84, .t 86], some (80, false)⟩, ⟨some 88, .p (.notB), [.t 87], some (80, false)⟩, ⟨some 89, .p (.pick), [.t 80, .c (.bool true), .t 88], none⟩]) (.cond (.t 89) (.seq (.ops false [] [⟨some 90, .p (.mov), [.t 9], none⟩, ⟨some 91, .p (.binI .add), [.t 90, .c (.int .i64 1)], none⟩, ⟨some 6, .p (.mov), [.t 91], none⟩, ⟨some 7, .p (.mov), [.c (.int .i64 17)], none⟩]) (.ret)) (.skip))))))) (.ops false [] [⟨some 92, .p (.binI .add), [.t 39, .c (.int .i64 1)], none⟩, ⟨some 39, .p (.mov), [.t 92], none⟩]))))))) (.seq (.ops false [] [⟨some 6, .p (.mov), [.c (.int .i64 0)], none⟩, ⟨some 7, .p (.mov), [.c (.int .i64 0)], none⟩]) (.ret)))))
theorem c16 : FnC Try.prog 16 93 a16 [.tmp 6, .tmp 7] := ⟨Try.call16, _, _, Try.func16, rfl, by kernel_rfl, by kernel_rfl, rfl⟩
namespace Wa
def frG (b d : Bx) (c : Co) : Nat → Int → Int → Int
  | 0, _, a => a
  | n + 1, t, a => if fiP (afV b d t) c then 0 else frG b d c n (t + 1) (if toP (afV b d t) c then 1 else a)
theorem ocE_z {b d : Bx} {c : Co} (h : ocE b d c = 0) : bxR b ∧ dfR d ∧ coR c ∧ c.fr ≤ c.to := by
  have z := firstE_zero h
  have z3 := firstE_zero (z (coE c) (by simp))
  exact ⟨(bxE_z (z (bxE b) (by simp))).1, (dfE_z (z (dfE d) (by simp))).1, unl_zero (z3 (unl (coR c) 2) (by simp)) (by decide), unl_zero (z3 (unl (c.fr ≤ c.to) 9) (by simp)) (by decide)⟩
def iF (b d : Bx) (c : Co) : Int := frG b d c (c.to + 1 - c.fr).toNat c.fr 2
def iFV (b d : Bx) (c : Co) : AV := if ocE b d c = 0 then .tup [I (iF b d c), I 0] else .tup [I 0, I (ocE b d c)]
def S_iF (b d : Bx) (c : Co) : AState := ⟨[.any, .any, .any, .vp [eBx b] 0 0, .vp [eBx d] 0 0, .vp [eCo c] 0 0, I 0, I 0, .any, .any, .any, .any, .any, .any, .any, .any, .any, .any, .any, .any, .any, .any, .any, .any, .any, .any, .any, .any, .any, .any, .any, .any, .any, .any, .any, .any, .any, .any], [], 0⟩
def S_iFl (b d : Bx) (c : Co) (p : Int × Int) : AState := ⟨[.any, .any, .any, .vp [eBx b] 0 0, .vp [eBx d] 0 0, .vp [eCo c] 0 0, .any, .any, .any, I p.2, I p.1, .any, .any, .any, .any, .any, .any, .any, .any, .any, .any, .any, .any, .any, .any, .any, .any, .any, .any, .any, .any, .any, .any, .any, .any, .any, .any, .any], [], 0⟩
theorem k_IsFree (b d : Bx) (c : Co) : FOk P 14 [eBx b, eBx d, eCo c] (iFV b d c) := by
  have yo := x_openCorridor b d c
  refine c14.fok (y := YH P noHx) rfl ?_
  rw [bg_eq]
  refine Cor.seq (Cor.run (noC_good _) (noHx_good _) hm ?_)
  simp +contextual -implicitDefEqProofs (maxSteps := 2000000) only [eThen_normal, ruB, rh_no, Int.reduceLT, Int.reduceLE, Int.reduceAdd, Int.reduceSub, Int.reduceMul, Int.reduceNeg, Int.reduceToNat, Int.reduceEq, Int.reduceNe, Int.reduceTDiv, Int.reduceTMod, implies_true, putL, appN, appX, appC, Eng.Fi, reduceCtorEq, exists_eq_left', exists_eq_left, if_true, if_false, List.replicate, Nat.reduceAdd, Nat.reduceSub, Nat.reduceMul, Nat.reduceLeDiff, Nat.reduceLT, Nat.reduceEqDiff]
  refine Cor.wk (s2 := S_iF b d c) (Wkn.to ⟨0, [], [0, 1, 2], 0, [3, 4, 5, 6, 7]⟩ rfl rfl (by simp [Wk.st, keepT, memN, Wk.fate, Wk.fate0, assoc, getE, Wk.hp, ABlk.sub, sub1, subs, S_iF])) ?_
  by_cases h0 : ocE b d c = 0
  · rw [iFV, if_pos h0]
    obtain ⟨hb, hd, hc, hle⟩ := ocE_z h0
    have hfr : tiR c.fr := hc.1.2
    have hto : tiR c.to := hc.2
    unfold tiR at hfr hto
    refine Cor.run (addC_good g_touches (addC_good g_fills (addC_good g_after (addC_good g_openCorridor (noC_good _))))) (noHx_good _) hm ?_
    simp +contextual -implicitDefEqProofs (maxSteps := 2000000) only [S_iF, yo, h0, not_true_eq_false, ruB, rh_no, Int.reduceLT, Int.reduceLE, Int.reduceAdd, Int.reduceSub, Int.reduceMul, Int.reduceNeg, Int.reduceToNat, Int.reduceEq, Int.reduceNe, Int.reduceTDiv, Int.reduceTMod, implies_true, putL, appN, appX, appC, Eng.Fi, reduceCtorEq, exists_eq_left', exists_eq_left, if_true, if_false, List.replicate, Nat.reduceAdd, Nat.reduceSub, Nat.reduceMul, Nat.reduceLeDiff, Nat.reduceLT, Nat.reduceEqDiff]
    refine Cor.lp (addC_good g_touches (addC_good g_fills (addC_good g_after (addC_good g_openCorridor (noC_good _))))) (noHx_good _) hm (S_iFl b d c) (fun p => (c.fr ≤ p.1 ∧ p.1 ≤ c.to + 1) ∧ iF b d c = frG b d c (c.to + 1 - p.1).toNat p.1 p.2) (fun p => (c.to + 1 - p.1).toNat) (a := (c.fr, 2)) ⟨⟨Int.le_refl _, by omega⟩, rfl⟩ (Wkn.keep [3, 4, 5, 9, 10] rfl) ?_
    rintro f ⟨t, a⟩ ⟨⟨ht1, ht2⟩, hf⟩ go
    simp only at ht1 ht2 hf
    by_cases h : t ≤ c.to
    · have e1 : decide (t ≤ c.to) = true := decide_eq_true h
      have e3 : IntKind.wrap .i64 (t + 1) = t + 1 := wrap64 (by omega) (by omega)
      have en : (c.to + 1 - t).toNat = (c.to + 1 - (t + 1)).toNat + 1 := by omega
      have ya := x_after b d t (by simp only [eq_iff_iff, iff_true]; exact ⟨hb, hd, by unfold tiR; omega⟩)
      have y1 := x_fills (afV b d t) c
      have y2 := x_touches (afV b d t) c
      rw [en, frG] at hf
      generalize afV b d t = now at *
      by_cases c1 : fiP now c
      · have c1' := eq_true c1
        rw [if_pos c1] at hf
        rw [hf]
        simp +contextual -implicitDefEqProofs (maxSteps := 2000000) only [S_iFl, e1, e3, ya, y1, y2, c1', ruB, rh_no, Int.reduceLT, Int.reduceLE, Int.reduceAdd, Int.reduceSub, Int.reduceMul, Int.reduceNeg, Int.reduceToNat, Int.reduceEq, Int.reduceNe, Int.reduceTDiv, Int.reduceTMod, implies_true, putL, appN, appX, appC, Eng.Fi, reduceCtorEq, exists_eq_left', exists_eq_left, if_true, if_false, List.replicate, Nat.reduceAdd, Nat.reduceSub, Nat.reduceMul, Nat.reduceLeDiff, Nat.reduceLT, Nat.reduceEqDiff]
      · have c1' := eq_false c1
        rw [if_neg c1] at hf
        by_cases c2 : toP now c
        · have c2' := eq_true c2
          rw [if_pos c2] at hf
          simp +contextual -implicitDefEqProofs (maxSteps := 2000000) only [S_iFl, e1, e3, ya, y1, y2, c1', c2', ruB, rh_no, Int.reduceLT, Int.reduceLE, Int.reduceAdd, Int.reduceSub, Int.reduceMul, Int.reduceNeg, Int.reduceToNat, Int.reduceEq, Int.reduceNe, Int.reduceTDiv, Int.reduceTMod, implies_true, putL, appN, appX, appC, Eng.Fi, reduceCtorEq, exists_eq_left', exists_eq_left, if_true, if_false, List.replicate, Nat.reduceAdd, Nat.reduceSub, Nat.reduceMul, Nat.reduceLeDiff, Nat.reduceLT, Nat.reduceEqDiff]
          exact go _ (t + 1, 1) ⟨⟨by simp only; omega, by simp only; omega⟩, hf⟩ (by simp only; omega) (Wkn.to ⟨0, [], [], 0, [3, 4, 5, 9, 10]⟩ rfl rfl (by simp only [Wk.st, keepT, sub1, subs, Wk.hp, ABlk.sub, S_iFl]; try rfl))
        · have c2' := eq_false c2
          rw [if_neg c2] at hf
          simp +contextual -implicitDefEqProofs (maxSteps := 2000000) only [S_iFl, e1, e3, ya, y1, y2, c1', c2', ruB, rh_no, Int.reduceLT, Int.reduceLE, Int.reduceAdd, Int.reduceSub, Int.reduceMul, Int.reduceNeg, Int.reduceToNat, Int.reduceEq, Int.reduceNe, Int.reduceTDiv, Int.reduceTMod, implies_true, putL, appN, appX, appC, Eng.Fi, reduceCtorEq, exists_eq_left', exists_eq_left, if_true, if_false, List.replicate, Nat.reduceAdd, Nat.reduceSub, Nat.reduceMul, Nat.reduceLeDiff, Nat.reduceLT, Nat.reduceEqDiff]
          exact go _ (t + 1, a) ⟨⟨by simp only; omega, by simp only; omega⟩, hf⟩ (by simp only; omega) (Wkn.to ⟨0, [], [], 0, [3, 4, 5, 9, 10]⟩ rfl rfl (by simp only [Wk.st, keepT, sub1, subs, Wk.hp, ABlk.sub, S_iFl]; try rfl))
    · have e1 : decide (t ≤ c.to) = false := decide_eq_false h
      have en : (c.to + 1 - t).toNat = 0 := by omega
      rw [en, frG] at hf
      rw [hf]
      simp +contextual -implicitDefEqProofs (maxSteps := 2000000) only [S_iFl, e1, ruB, rh_no, Int.reduceLT, Int.reduceLE, Int.reduceAdd, Int.reduceSub, Int.reduceMul, Int.reduceNeg, Int.reduceToNat, Int.reduceEq, Int.reduceNe, Int.reduceTDiv, Int.reduceTMod, implies_true, putL, appN, appX, appC, Eng.Fi, reduceCtorEq, exists_eq_left', exists_eq_left, if_true, if_false, List.replicate, Nat.reduceAdd, Nat.reduceSub, Nat.reduceMul, Nat.reduceLeDiff, Nat.reduceLT, Nat.reduceEqDiff]
  · rw [iFV, if_neg h0]
    refine Cor.run (addC_good g_touches (addC_good g_fills (addC_good g_after (addC_good g_openCorridor (noC_good _))))) (noHx_good _) hm ?_
    simp +contextual -implicitDefEqProofs (maxSteps := 2000000) only [S_iF, yo, h0, not_false_eq_true, ruB, rh_no, Int.reduceLT, Int.reduceLE, Int.reduceAdd, Int.reduceSub, Int.reduceMul, Int.reduceNeg, Int.reduceToNat, Int.reduceEq, Int.reduceNe, Int.reduceTDiv, Int.reduceTMod, implies_true, putL, appN, appX, appC, Eng.Fi, reduceCtorEq, exists_eq_left', exists_eq_left, if_true, if_false, List.replicate, Nat.reduceAdd, Nat.reduceSub, Nat.reduceMul, Nat.reduceLeDiff, Nat.reduceLT, Nat.reduceEqDiff]
def cf_IsFree : List AV → Option AV
  | [.agg [.int .i64 b_yl, .int .i64 b_yh, .int .i64 b_zl, .int .i64 b_zh, .int .i64 b_sl, .int .i64 b_sh], .agg [.int .i64 d_yl, .int .i64 d_yh, .int .i64 d_zl, .int .i64 d_zh, .int .i64 d_sl, .int .i64 d_sh], .agg [.int .i64 c_yl, .int .i64 c_yh, .int .i64 c_zl, .int .i64 c_zh, .int .i64 c_lim, .int .i64 c_fr, .int .i64 c_to]] => some (iFV (⟨b_yl, b_yh, b_zl, b_zh, b_sl, b_sh⟩ : Bx) (⟨d_yl, d_yh, d_zl, d_zh, d_sl, d_sh⟩ : Bx) (⟨c_yl, c_yh, c_zl, c_zh, c_lim, c_fr, c_to⟩ : Co))
  | _ => none
theorem g_IsFree : Fn P 14 cf_IsFree := fun args v hh => by
  unfold cf_IsFree at hh; split at hh
  · have hk := Option.some.inj hh; subst hk; exact k_IsFree ⟨_, _, _, _, _, _⟩ ⟨_, _, _, _, _, _⟩ ⟨_, _, _, _, _, _, _⟩
  · cases hh
theorem x_IsFree (b : Bx) (d : Bx) (c : Co) : cf_IsFree [.agg [I b.yl, I b.yh, I b.zl, I b.zh, I b.sl, I b.sh], .agg [I d.yl, I d.yh, I d.zl, I d.zh, I d.sl, I d.sh], .agg [I c.yl, I c.yh, I c.zl, I c.zh, I c.lim, I c.fr, I c.to]] = some (iFV b d c) := by
  rfl
def erG (b d : Bx) (c : Co) : Nat → Int → Int
  | 0, t => t
  | n + 1, t => if toP (afV b d t) c then t else erG b d c n (t - 1)
def eR (b d : Bx) (c : Co) : Int := erG b d c (c.to + 1 - c.fr).toNat c.to
def eRV (b d : Bx) (c : Co) : AV := if ocE b d c = 0 then (if eR b d c = c.to then .tup [I 0, I 12] else .tup [I (eR b d c + 1), I 0]) else .tup [I 0, I (ocE b d c)]
theorem erG_bd (b d : Bx) (c : Co) : ∀ (n : Nat) (t : Int), t - n ≤ erG b d c n t ∧ erG b d c n t ≤ t
  | 0, t => by simp [erG]
  | n + 1, t => by
    have := erG_bd b d c n (t - 1)
    rw [erG]
    split <;> omega
def S_eR (b d : Bx) (c : Co) : AState := ⟨[.any, .any, .any, .vp [eBx b] 0 0, .vp [eBx d] 0 0, .vp [eCo c] 0 0, I 0, I 0, .any, .any, .any, .any, .any, .any, .any, .any, .any, .any, .any, .any, .any, .any, .any, .any, .any, .any, .any, .any, .any, .any, .any, .any, .any, .any, .any, .any, .any, .any, .any, .any], [], 0⟩
def S_eRl (b d : Bx) (c : Co) (t : Int) : AState := ⟨[.any, .any, .any, .vp [eBx b] 0 0, .vp [eBx d] 0 0, .vp [eCo c] 0 0, .any, .any, .any, I t, .any, .any, .any, .any, .any, .any, .any, .any, .any, .any, .any, .any, .any, .any, .any, .any, .any, .any, .any, .any, .any, .any, .any, .any, .any, .any, .any, .any, .any, .any], [], 0⟩
theorem k_EarliestFree (b d : Bx) (c : Co) : FOk P 15 [eBx b, eBx d, eCo c] (eRV b d c) := by
  have yo := x_openCorridor b d c
  refine c15.fok (y := YH P noHx) rfl ?_
  rw [bg_eq]
  refine Cor.seq (Cor.run (noC_good _) (noHx_good _) hm ?_)
  simp +contextual -implicitDefEqProofs (maxSteps := 2000000) only [eThen_normal, ruB, rh_no, Int.reduceLT, Int.reduceLE, Int.reduceAdd, Int.reduceSub, Int.reduceMul, Int.reduceNeg, Int.reduceToNat, Int.reduceEq, Int.reduceNe, Int.reduceTDiv, Int.reduceTMod, implies_true, putL, appN, appX, appC, Eng.Fi, reduceCtorEq, exists_eq_left', exists_eq_left, if_true, if_false, List.replicate, Nat.reduceAdd, Nat.reduceSub, Nat.reduceMul, Nat.reduceLeDiff, Nat.reduceLT, Nat.reduceEqDiff]
  refine Cor.wk (s2 := S_eR b d c) (Wkn.to ⟨0, [], [0, 1, 2], 0, [3, 4, 5, 6, 7]⟩ rfl rfl (by simp [Wk.st, keepT, memN, Wk.fate, Wk.fate0, assoc, getE, Wk.hp, ABlk.sub, sub1, subs, S_eR])) ?_
  by_cases h0 : ocE b d c = 0
  · rw [eRV, if_pos h0]
    obtain ⟨hb, hd, hc, hle⟩ := ocE_z h0
    have hfr : tiR c.fr := hc.1.2
    have hto : tiR c.to := hc.2
    unfold tiR at hfr hto
    refine Cor.run (addC_good g_touches (addC_good g_after (addC_good g_openCorridor (noC_good _)))) (noHx_good _) hm ?_
    simp +contextual -implicitDefEqProofs (maxSteps := 2000000) only [S_eR, yo, h0, not_true_eq_false, ruB, rh_no, Int.reduceLT, Int.reduceLE, Int.reduceAdd, Int.reduceSub, Int.reduceMul, Int.reduceNeg, Int.reduceToNat, Int.reduceEq, Int.reduceNe, Int.reduceTDiv, Int.reduceTMod, implies_true, putL, appN, appX, appC, Eng.Fi, reduceCtorEq, exists_eq_left', exists_eq_left, if_true, if_false, List.replicate, Nat.reduceAdd, Nat.reduceSub, Nat.reduceMul, Nat.reduceLeDiff, Nat.reduceLT, Nat.reduceEqDiff]
    refine Cor.lp (addC_good g_touches (addC_good g_after (addC_good g_openCorridor (noC_good _)))) (noHx_good _) hm (S_eRl b d c) (fun t => (c.fr - 1 ≤ t ∧ t ≤ c.to) ∧ eR b d c = erG b d c (t + 1 - c.fr).toNat t) (fun t => (t + 1 - c.fr).toNat) (a := c.to) ⟨⟨by omega, Int.le_refl _⟩, rfl⟩ (Wkn.keep [3, 4, 5, 9] rfl) ?_
    rintro f t ⟨⟨ht1, ht2⟩, hf⟩ go
    have fin : ∀ t, c.fr - 1 ≤ t → t ≤ c.to → eR b d c = t → True := fun _ _ _ _ => trivial
    by_cases h : c.fr ≤ t
    · have e1 : (c.fr ≤ t) = True := eq_true h
      have e3 : IntKind.wrap .i64 (t - 1) = t - 1 := wrap64 (by omega) (by omega)
      have e4 : IntKind.wrap .i64 (t + 1) = t + 1 := wrap64 (by omega) (by omega)
      have en : (t + 1 - c.fr).toNat = (t - 1 + 1 - c.fr).toNat + 1 := by omega
      have ya := x_after b d t (by simp only [eq_iff_iff, iff_true]; exact ⟨hb, hd, by unfold tiR; omega⟩)
      have y2 := x_touches (afV b d t) c
      rw [en, erG] at hf
      generalize afV b d t = now at *
      by_cases c2 : toP now c
      · have c2' := eq_true c2
        rw [if_pos c2] at hf
        rw [hf]
        by_cases hq : t = c.to
        · have hq' := eq_true hq
          rw [if_pos hq]
          simp +contextual -implicitDefEqProofs (maxSteps := 2000000) only [S_eRl, e1, e3, e4, ya, y2, c2', hq', not_true_eq_false, ruB, rh_no, Int.reduceLT, Int.reduceLE, Int.reduceAdd, Int.reduceSub, Int.reduceMul, Int.reduceNeg, Int.reduceToNat, Int.reduceEq, Int.reduceNe, Int.reduceTDiv, Int.reduceTMod, implies_true, putL, appN, appX, appC, Eng.Fi, reduceCtorEq, exists_eq_left', exists_eq_left, if_true, if_false, List.replicate, Nat.reduceAdd, Nat.reduceSub, Nat.reduceMul, Nat.reduceLeDiff, Nat.reduceLT, Nat.reduceEqDiff]
        · have hq' := eq_false hq
          rw [if_neg hq]
          simp +contextual -implicitDefEqProofs (maxSteps := 2000000) only [S_eRl, e1, e3, e4, ya, y2, c2', hq', not_true_eq_false, ruB, rh_no, Int.reduceLT, Int.reduceLE, Int.reduceAdd, Int.reduceSub, Int.reduceMul, Int.reduceNeg, Int.reduceToNat, Int.reduceEq, Int.reduceNe, Int.reduceTDiv, Int.reduceTMod, implies_true, putL, appN, appX, appC, Eng.Fi, reduceCtorEq, exists_eq_left', exists_eq_left, if_true, if_false, List.replicate, Nat.reduceAdd, Nat.reduceSub, Nat.reduceMul, Nat.reduceLeDiff, Nat.reduceLT, Nat.reduceEqDiff]
      · have c2' := eq_false c2
        rw [if_neg c2] at hf
        simp +contextual -implicitDefEqProofs (maxSteps := 2000000) only [S_eRl, e1, e3, ya, y2, c2', not_false_eq_true, ruB, rh_no, Int.reduceLT, Int.reduceLE, Int.reduceAdd, Int.reduceSub, Int.reduceMul, Int.reduceNeg, Int.reduceToNat, Int.reduceEq, Int.reduceNe, Int.reduceTDiv, Int.reduceTMod, implies_true, putL, appN, appX, appC, Eng.Fi, reduceCtorEq, exists_eq_left', exists_eq_left, if_true, if_false, List.replicate, Nat.reduceAdd, Nat.reduceSub, Nat.reduceMul, Nat.reduceLeDiff, Nat.reduceLT, Nat.reduceEqDiff]
        exact go _ (t - 1) ⟨⟨by omega, by omega⟩, hf⟩ (by omega) (Wkn.keep [3, 4, 5, 9] rfl)
    · have e1 : (c.fr ≤ t) = False := eq_false h
      have e4 : IntKind.wrap .i64 (t + 1) = t + 1 := wrap64 (by omega) (by omega)
      have en : (t + 1 - c.fr).toNat = 0 := by omega
      rw [en, erG] at hf
      have hq : ¬ t = c.to := by omega
      have hq' := eq_false hq
      rw [hf, if_neg hq]
      simp +contextual -implicitDefEqProofs (maxSteps := 2000000) only [S_eRl, e1, e4, hq', not_false_eq_true, ruB, rh_no, Int.reduceLT, Int.reduceLE, Int.reduceAdd, Int.reduceSub, Int.reduceMul, Int.reduceNeg, Int.reduceToNat, Int.reduceEq, Int.reduceNe, Int.reduceTDiv, Int.reduceTMod, implies_true, putL, appN, appX, appC, Eng.Fi, reduceCtorEq, exists_eq_left', exists_eq_left, if_true, if_false, List.replicate, Nat.reduceAdd, Nat.reduceSub, Nat.reduceMul, Nat.reduceLeDiff, Nat.reduceLT, Nat.reduceEqDiff]
  · rw [eRV, if_neg h0]
    refine Cor.run (addC_good g_touches (addC_good g_after (addC_good g_openCorridor (noC_good _)))) (noHx_good _) hm ?_
    simp +contextual -implicitDefEqProofs (maxSteps := 2000000) only [S_eR, yo, h0, not_false_eq_true, ruB, rh_no, Int.reduceLT, Int.reduceLE, Int.reduceAdd, Int.reduceSub, Int.reduceMul, Int.reduceNeg, Int.reduceToNat, Int.reduceEq, Int.reduceNe, Int.reduceTDiv, Int.reduceTMod, implies_true, putL, appN, appX, appC, Eng.Fi, reduceCtorEq, exists_eq_left', exists_eq_left, if_true, if_false, List.replicate, Nat.reduceAdd, Nat.reduceSub, Nat.reduceMul, Nat.reduceLeDiff, Nat.reduceLT, Nat.reduceEqDiff]
def cf_EarliestFree : List AV → Option AV
  | [.agg [.int .i64 b_yl, .int .i64 b_yh, .int .i64 b_zl, .int .i64 b_zh, .int .i64 b_sl, .int .i64 b_sh], .agg [.int .i64 d_yl, .int .i64 d_yh, .int .i64 d_zl, .int .i64 d_zh, .int .i64 d_sl, .int .i64 d_sh], .agg [.int .i64 c_yl, .int .i64 c_yh, .int .i64 c_zl, .int .i64 c_zh, .int .i64 c_lim, .int .i64 c_fr, .int .i64 c_to]] => some (eRV (⟨b_yl, b_yh, b_zl, b_zh, b_sl, b_sh⟩ : Bx) (⟨d_yl, d_yh, d_zl, d_zh, d_sl, d_sh⟩ : Bx) (⟨c_yl, c_yh, c_zl, c_zh, c_lim, c_fr, c_to⟩ : Co))
  | _ => none
theorem g_EarliestFree : Fn P 15 cf_EarliestFree := fun args v hh => by
  unfold cf_EarliestFree at hh; split at hh
  · have hk := Option.some.inj hh; subst hk; exact k_EarliestFree ⟨_, _, _, _, _, _⟩ ⟨_, _, _, _, _, _⟩ ⟨_, _, _, _, _, _, _⟩
  · cases hh
theorem x_EarliestFree (b : Bx) (d : Bx) (c : Co) : cf_EarliestFree [.agg [I b.yl, I b.yh, I b.zl, I b.zh, I b.sl, I b.sh], .agg [I d.yl, I d.yh, I d.zl, I d.zh, I d.sl, I d.sh], .agg [I c.yl, I c.yh, I c.zl, I c.zh, I c.lim, I c.fr, I c.to]] = some (eRV b d c) := by
  rfl
end Wa
open Go Go.Proofs Eng
set_option maxRecDepth 100000
set_option linter.unusedSimpArgs false
set_option linter.unusedVariables false
namespace Wa
theorem ho_sm {b d : Bx} {v : Vo} {k : Int} (hb : bxR b) (hd : dfR d) (hk : 0 ≤ k ∧ k ≤ 1001) (h : hoP (afV b d k) v) : (-2000000 ≤ v.y ∧ v.y ≤ 2000000) ∧ (0 ≤ v.z ∧ v.z ≤ 2000000) ∧ (0 ≤ v.s ∧ v.s ≤ 2000000) := by
  unfold bxR inR at hb
  unfold dfR inR at hd
  unfold hoP afV at h
  simp only at h
  have p1 := mul_bd (a := k) (b := d.yl) (A := 1001) (B := 100) (by omega) (by omega)
  have p2 := mul_bd (a := k) (b := d.yh) (A := 1001) (B := 100) (by omega) (by omega)
  have p3 := mul_bd (a := k) (b := d.zl) (A := 1001) (B := 100) (by omega) (by omega)
  have p4 := mul_bd (a := k) (b := d.zh) (A := 1001) (B := 100) (by omega) (by omega)
  have p5 := mul_bd (a := k) (b := d.sl) (A := 1001) (B := 100) (by omega) (by omega)
  have p6 := mul_bd (a := k) (b := d.sh) (A := 1001) (B := 100) (by omega) (by omega)
  omega
def pgG (d : Bx) : Nat → Vo → List Vo → Int × Int
  | _, _, [] => (0, 0)
  | i, v, w :: r => if stP d v w then pgG d (i + 1) w r else (((i + 1 : Nat) : Int), 17)
def cpE (b d : Bx) (l : List Vo) : Int := firstE [bxE b, dfE d, unl (0 < (l.length : Int)) 10, unl ((l.length : Int) ≤ 1001) 8]
def cpG (b d : Bx) : List Vo → Int × Int
  | [] => (0, 0)
  | v :: r => if hoP b v then pgG d 0 v r else (0, 17)
def cpV (b d : Bx) (l : List Vo) : Int × Int := if cpE b d l = 0 then cpG b d l else (0, cpE b d l)
theorem cpE_z {b d : Bx} {l : List Vo} (h : cpE b d l = 0) : bxR b ∧ dfR d ∧ 0 < l.length ∧ l.length ≤ 1001 := by
  have z := firstE_zero h
  have a3 := unl_zero (z (unl (0 < (l.length : Int)) 10) (by simp)) (by decide)
  have a4 := unl_zero (z (unl ((l.length : Int) ≤ 1001) 8) (by simp)) (by decide)
  exact ⟨(bxE_z (z (bxE b) (by simp))).1, (dfE_z (z (dfE d) (by simp))).1, by omega, by omega⟩
def S_cp (b d : Bx) (l : List Vo) : AState := ⟨[.any, .any, .vs (l.map eVo), .vp [eBx b] 0 0, .vp [eBx d] 0 0, .any, I 0, I 0, .any, .any, .any, .any, .any, .any, .any, .any, .any, .any, .any, .any, .any, .any, .any, .any, .any, .any, .any, .any, .any, .any, .any, .any, .any, .any, .any, .any, .any, .any, .any, .any, .any, .any, .any, .any, .any, .any, .any, .any, .any, .any, .any, .any, .any, .any, .any, .any, .any, .any, .any, .any, .any, .any, .any, .any, .any, .any, .any, .any, .any, .any, .any, .any, .any, .any, .any, .any, .any, .any, .any, .any, .any, .any, .any, .any, .any, .any, .any, .any, .any, .any, .any, .any, .any], [], 0⟩
def S_cpl (b d : Bx) (l : List Vo) (k : Nat) : AState := ⟨[.any, .any, .vs (l.map eVo), .any, .vp [eBx d] 0 0, .any, .any, .any, .any, .any, .any, .any, .any, .any, .any, .any, .any, .any, .any, .any, .any, .any, .any, .any, .any, .any, .any, .any, .any, .any, .any, .any, .any, .any, .any, .any, .any, .vs ((l.drop 1).map eVo), I ((l.length - 1 : Nat) : Int), I k, .any, .any, .any, .any, .any, .any, .any, .any, .any, .any, .any, .any, .any, .any, .any, .any, .any, .any, .any, .any, .any, .any, .any, .any, .any, .any, .any, .any, .any, .any, .any, .any, .any, .any, .any, .any, .any, .any, .any, .any, .any, .any, .any, .any, .any, .any, .any, .any, .any, .any, .any, .any, .any], [], 0⟩
theorem k_CheckPath (b d : Bx) (l : List Vo) (hl : l.length ≤ 1099511627776) : FOk P 16 [eBx b, eBx d, .vs (l.map eVo)] (.tup [I (cpV b d l).1, I (cpV b d l).2]) := by
  have y1 := x_CheckBox b
  have y2 := x_driftErr d
  refine c16.fok (y := YH P noHx) (by simp only [subs, sub1, free_Vo]) ?_
  rw [bg_eq]
  refine Cor.seq (Cor.run (noC_good _) (noHx_good _) hm ?_)
  simp +contextual -implicitDefEqProofs (maxSteps := 2000000) only [eThen_normal, ruB, rh_no, Int.reduceLT, Int.reduceLE, Int.reduceAdd, Int.reduceSub, Int.reduceMul, Int.reduceNeg, Int.reduceToNat, Int.reduceEq, Int.reduceNe, Int.reduceTDiv, Int.reduceTMod, implies_true, putL, appN, appX, appC, Eng.Fi, reduceCtorEq, exists_eq_left', exists_eq_left, if_true, if_false, List.replicate, Nat.reduceAdd, Nat.reduceSub, Nat.reduceMul, Nat.reduceLeDiff, Nat.reduceLT, Nat.reduceEqDiff]
  refine Cor.wk (s2 := S_cp b d l) (Wkn.to ⟨0, [], [0, 1], 0, [2, 3, 4, 6, 7]⟩ rfl rfl (by simp [Wk.st, keepT, memN, Wk.fate, Wk.fate0, assoc, getE, Wk.hp, ABlk.sub, sub1, subs, S_cp, free_Vo])) ?_
  by_cases h0 : cpE b d l = 0
  · rw [cpV, if_pos h0]
    obtain ⟨hb, hd, hl0, hl1⟩ := cpE_z h0
    have h0' := h0
    unfold cpE at h0'
    have g0 : (l.map eVo)[0]? = some (eVo l[0]) := get_e eVo l hl0
    have y3 := x_holds b l[0]
    have al : (l.map eVo).all (fun v => decide (v.cells.length = 3)) = true := by simp [List.all_map, AV.cells]
    have t1 : ((l.map eVo).drop 1).take (l.length - 1) = (l.drop 1).map eVo := by
      rw [← List.map_drop, List.take_of_length_le]; simp
    have q1 : (1 ≤ l.length) = True := eq_true hl0
    have lc : l = l[0] :: l.drop 1 := by
      have := List.drop_eq_getElem_cons hl0
      rwa [List.drop_zero] at this
    have ec : cpG b d l = if hoP b l[0] then pgG d 0 l[0] (l.drop 1) else (0, 17) := by
      conv => lhs; rw [lc]
      rfl
    rw [ec]
    by_cases hh : hoP b l[0]
    · have hh' := eq_true hh
      rw [if_pos hh]
      refine Cor.run (addC_good g_falls (addC_good g_within (addC_good g_holds (addC_good g_first (addC_good g_unless (addC_good g_driftErr (addC_good g_CheckBox (noC_good _)))))))) (noHx_good _) hm ?_
      simp +contextual -implicitDefEqProofs (maxSteps := 2000000) only [S_cp, y1, y2, y3, x_unless, x_first, y_first, List.length_map, h0', g0, hh', al, t1, q1, not_true_eq_false, not_false_eq_true, List.length_drop, ruB, rh_no, Int.reduceLT, Int.reduceLE, Int.reduceAdd, Int.reduceSub, Int.reduceMul, Int.reduceNeg, Int.reduceToNat, Int.reduceEq, Int.reduceNe, Int.reduceTDiv, Int.reduceTMod, implies_true, putL, appN, appX, appC, Eng.Fi, reduceCtorEq, exists_eq_left', exists_eq_left, if_true, if_false, List.replicate, Nat.reduceAdd, Nat.reduceSub, Nat.reduceMul, Nat.reduceLeDiff, Nat.reduceLT, Nat.reduceEqDiff]
      refine Cor.lp (addC_good g_falls (addC_good g_within (addC_good g_holds (addC_good g_first (addC_good g_unless (addC_good g_driftErr (addC_good g_CheckBox (noC_good _)))))))) (noHx_good _) hm (S_cpl b d l) (fun k => ∃ h : k < l.length, hoP (afV b d k) l[k] ∧ pgG d 0 l[0] (l.drop 1) = pgG d k l[k] (l.drop (k + 1))) (fun k => l.length - k) (a := 0) ⟨hl0, ?_, rfl⟩ (Wkn.keep [2, 4, 37, 38, 39] rfl) ?_
      · have := af_zero (d := d) hb
        show hoP (afV b d 0) l[0]
        rw [this]; exact hh
      intro f k ⟨hk, hv, hf⟩ go
      rcases Nat.lt_or_ge (k + 1) l.length with h | h
      · have e1 : decide ((k : Int) < ((l.length - 1 : Nat) : Int)) = true := by simp; omega
        have e2 : ((l.drop 1).map eVo)[k]? = some (eVo l[k + 1]) := by
          rw [List.getElem?_map, List.getElem?_drop, Nat.add_comm 1 k, List.getElem?_eq_getElem h]; rfl
        have e4 : (l.map eVo)[k]? = some (eVo l[k]) := get_e eVo l hk
        have e3 : IntKind.wrap .i64 ((k : Int) + 1) = ((k + 1 : Nat) : Int) := suc_w (by omega)
        have hs := ho_sm hb hd (k := (k : Int)) (by omega) hv
        have hst := fun (hst : stP d l[k] l[k + 1]) => ho_step hd hv hst
        rw [List.drop_eq_getElem_cons h, pgG] at hf
        generalize l[k] = v at *
        have hwe : ∃ w, l[k + 1] = w := ⟨_, rfl⟩
        obtain ⟨w, hw⟩ := hwe
        have hd' := hd
        unfold dfR inR at hd'
        have w1 : IntKind.wrap .i64 (v.y + d.yl) = v.y + d.yl := wrap64 (by omega) (by omega)
        have w2 : IntKind.wrap .i64 (v.y + d.yh) = v.y + d.yh := wrap64 (by omega) (by omega)
        rw [hw] at e2 hf hst
        have f1 := x_falls v.z w.z d.zl d.zh (by unfold smB; simp only [eq_iff_iff, iff_true]; omega)
        have f2 := x_falls v.s w.s d.sl d.sh (by unfold smB; simp only [eq_iff_iff, iff_true]; omega)
        by_cases c1 : v.y + d.yl ≤ w.y ∧ w.y ≤ v.y + d.yh
        · have c1' := eq_true c1
          by_cases c2 : faP v.z w.z d.zl d.zh
          · have c2' := eq_true c2
            by_cases c3 : faP v.s w.s d.sl d.sh
            · have c3' := eq_true c3
              have hq : stP d v w := ⟨⟨c1, c2⟩, c3⟩
              rw [if_pos hq] at hf
              simp +contextual -implicitDefEqProofs (maxSteps := 2000000) only [S_cpl, e1, e2, e3, e4, w1, w2, f1, f2, x_within, c1', c2', c3', not_true_eq_false, ruB, rh_no, Int.reduceLT, Int.reduceLE, Int.reduceAdd, Int.reduceSub, Int.reduceMul, Int.reduceNeg, Int.reduceToNat, Int.reduceEq, Int.reduceNe, Int.reduceTDiv, Int.reduceTMod, implies_true, putL, appN, appX, appC, Eng.Fi, reduceCtorEq, exists_eq_left', exists_eq_left, if_true, if_false, List.replicate, Nat.reduceAdd, Nat.reduceSub, Nat.reduceMul, Nat.reduceLeDiff, Nat.reduceLT, Nat.reduceEqDiff]
              have hk2 : hoP (afV b d ((k + 1 : Nat) : Int)) l[k + 1] := by rw [hw]; exact hst hq
              exact go _ (k + 1) ⟨h, hk2, by rw [hw]; exact hf⟩ (by omega) (Wkn.to ⟨0, [], [], 0, [2, 4, 37, 38, 39]⟩ rfl rfl (by simp only [Wk.st, keepT, sub1, subs, Wk.hp, ABlk.sub, S_cpl, free_Vo]; try rfl))
            · have c3' := eq_false c3
              rw [if_neg (fun hq : stP d v w => c3 hq.2)] at hf
              rw [hf]
              simp +contextual -implicitDefEqProofs (maxSteps := 2000000) only [S_cpl, e1, e2, e3, e4, w1, w2, f1, f2, x_within, c1', c2', c3', not_true_eq_false, not_false_eq_true, ruB, rh_no, Int.reduceLT, Int.reduceLE, Int.reduceAdd, Int.reduceSub, Int.reduceMul, Int.reduceNeg, Int.reduceToNat, Int.reduceEq, Int.reduceNe, Int.reduceTDiv, Int.reduceTMod, implies_true, putL, appN, appX, appC, Eng.Fi, reduceCtorEq, exists_eq_left', exists_eq_left, if_true, if_false, List.replicate, Nat.reduceAdd, Nat.reduceSub, Nat.reduceMul, Nat.reduceLeDiff, Nat.reduceLT, Nat.reduceEqDiff]
          · have c2' := eq_false c2
            rw [if_neg (fun hq : stP d v w => c2 hq.1.2)] at hf
            rw [hf]
            simp +contextual -implicitDefEqProofs (maxSteps := 2000000) only [S_cpl, e1, e2, e3, e4, w1, w2, f1, f2, x_within, c1', c2', not_true_eq_false, not_false_eq_true, ruB, rh_no, Int.reduceLT, Int.reduceLE, Int.reduceAdd, Int.reduceSub, Int.reduceMul, Int.reduceNeg, Int.reduceToNat, Int.reduceEq, Int.reduceNe, Int.reduceTDiv, Int.reduceTMod, implies_true, putL, appN, appX, appC, Eng.Fi, reduceCtorEq, exists_eq_left', exists_eq_left, if_true, if_false, List.replicate, Nat.reduceAdd, Nat.reduceSub, Nat.reduceMul, Nat.reduceLeDiff, Nat.reduceLT, Nat.reduceEqDiff]
        · have c1' := eq_false c1
          rw [if_neg (fun hq : stP d v w => c1 hq.1.1)] at hf
          rw [hf]
          simp +contextual -implicitDefEqProofs (maxSteps := 2000000) only [S_cpl, e1, e2, e3, e4, w1, w2, f1, f2, x_within, c1', not_true_eq_false, not_false_eq_true, ruB, rh_no, Int.reduceLT, Int.reduceLE, Int.reduceAdd, Int.reduceSub, Int.reduceMul, Int.reduceNeg, Int.reduceToNat, Int.reduceEq, Int.reduceNe, Int.reduceTDiv, Int.reduceTMod, implies_true, putL, appN, appX, appC, Eng.Fi, reduceCtorEq, exists_eq_left', exists_eq_left, if_true, if_false, List.replicate, Nat.reduceAdd, Nat.reduceSub, Nat.reduceMul, Nat.reduceLeDiff, Nat.reduceLT, Nat.reduceEqDiff]
      · have e1 : decide ((k : Int) < ((l.length - 1 : Nat) : Int)) = false := by simp; omega
        rw [List.drop_eq_nil_of_le h, pgG] at hf
        rw [hf]
        simp +contextual -implicitDefEqProofs (maxSteps := 2000000) only [S_cpl, e1, ruB, rh_no, Int.reduceLT, Int.reduceLE, Int.reduceAdd, Int.reduceSub, Int.reduceMul, Int.reduceNeg, Int.reduceToNat, Int.reduceEq, Int.reduceNe, Int.reduceTDiv, Int.reduceTMod, implies_true, putL, appN, appX, appC, Eng.Fi, reduceCtorEq, exists_eq_left', exists_eq_left, if_true, if_false, List.replicate, Nat.reduceAdd, Nat.reduceSub, Nat.reduceMul, Nat.reduceLeDiff, Nat.reduceLT, Nat.reduceEqDiff]
    · have hh' := eq_false hh
      rw [if_neg hh]
      refine Cor.run (addC_good g_falls (addC_good g_within (addC_good g_holds (addC_good g_first (addC_good g_unless (addC_good g_driftErr (addC_good g_CheckBox (noC_good _)))))))) (noHx_good _) hm ?_
      simp +contextual -implicitDefEqProofs (maxSteps := 2000000) only [S_cp, y1, y2, y3, x_unless, x_first, y_first, List.length_map, h0', g0, hh', not_true_eq_false, not_false_eq_true, ruB, rh_no, Int.reduceLT, Int.reduceLE, Int.reduceAdd, Int.reduceSub, Int.reduceMul, Int.reduceNeg, Int.reduceToNat, Int.reduceEq, Int.reduceNe, Int.reduceTDiv, Int.reduceTMod, implies_true, putL, appN, appX, appC, Eng.Fi, reduceCtorEq, exists_eq_left', exists_eq_left, if_true, if_false, List.replicate, Nat.reduceAdd, Nat.reduceSub, Nat.reduceMul, Nat.reduceLeDiff, Nat.reduceLT, Nat.reduceEqDiff]
  · rw [cpV, if_neg h0]
    have h0' := h0
    unfold cpE at h0' ⊢
    refine Cor.run (addC_good g_falls (addC_good g_within (addC_good g_holds (addC_good g_first (addC_good g_unless (addC_good g_driftErr (addC_good g_CheckBox (noC_good _)))))))) (noHx_good _) hm ?_
    simp +contextual -implicitDefEqProofs (maxSteps := 2000000) only [S_cp, y1, y2, x_unless, x_first, y_first, List.length_map, h0', not_false_eq_true, ruB, rh_no, Int.reduceLT, Int.reduceLE, Int.reduceAdd, Int.reduceSub, Int.reduceMul, Int.reduceNeg, Int.reduceToNat, Int.reduceEq, Int.reduceNe, Int.reduceTDiv, Int.reduceTMod, implies_true, putL, appN, appX, appC, Eng.Fi, reduceCtorEq, exists_eq_left', exists_eq_left, if_true, if_false, List.replicate, Nat.reduceAdd, Nat.reduceSub, Nat.reduceMul, Nat.reduceLeDiff, Nat.reduceLT, Nat.reduceEqDiff]
def cf_CheckPath : List AV → Option AV
  | [.agg [.int .i64 b_yl, .int .i64 b_yh, .int .i64 b_zl, .int .i64 b_zh, .int .i64 b_sl, .int .i64 b_sh], .agg [.int .i64 d_yl, .int .i64 d_yh, .int .i64 d_zl, .int .i64 d_zh, .int .i64 d_sl, .int .i64 d_sh], .vs l_v] => onL dVo l_v fun l => if l.length ≤ 1099511627776 then some (.tup [I (cpV (⟨b_yl, b_yh, b_zl, b_zh, b_sl, b_sh⟩ : Bx) (⟨d_yl, d_yh, d_zl, d_zh, d_sl, d_sh⟩ : Bx) l).1, I (cpV (⟨b_yl, b_yh, b_zl, b_zh, b_sl, b_sh⟩ : Bx) (⟨d_yl, d_yh, d_zl, d_zh, d_sl, d_sh⟩ : Bx) l).2]) else none
  | _ => none
theorem g_CheckPath : Fn P 16 cf_CheckPath := fun args v hh => by
  unfold cf_CheckPath at hh; split at hh
  · obtain ⟨l, rfl, hh1⟩ := onL_inv dVo_inv hh
    split at hh1
    · rename_i hc; have hk := Option.some.inj hh1; subst hk; exact k_CheckPath ⟨_, _, _, _, _, _⟩ ⟨_, _, _, _, _, _⟩ _ hc
    · cases hh1
  · cases hh
theorem x_CheckPath (b : Bx) (d : Bx) (l : List Vo) (hc : (l.length ≤ 1099511627776) = True) : cf_CheckPath [.agg [I b.yl, I b.yh, I b.zl, I b.zh, I b.sl, I b.sh], .agg [I d.yl, I d.yh, I d.zl, I d.zh, I d.sl, I d.sh], .vs (l.map eVo)] = some (.tup [I (cpV b d l).1, I (cpV b d l).2]) := by
  simp only [cf_CheckPath, onL_map dVo_e]
  exact if_pos (by rw [hc]; trivial)
end Wa
