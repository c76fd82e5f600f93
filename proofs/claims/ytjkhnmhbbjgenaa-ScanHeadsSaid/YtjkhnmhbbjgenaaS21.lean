import Derived.Test.YtjkhnmhbbjgenaaEngS9
import Derived.Test.YtjkhnmhbbjgenaaS20
open Go Go.Proofs Eng
set_option maxRecDepth 100000
set_option linter.unusedSimpArgs false
set_option linter.unusedVariables false
def a7 : AC := .seq (.ops false [] [⟨some 2, .box 42 7 1 true, [.t 0], none⟩, ⟨some 3, .box 37 2 1 true, [.t 1], none⟩, ⟨some 4, .p (.mov), [.c (.bool false)], none⟩]) (.seq (.seq (.ops false [] [⟨some 11, .call 15, [], none⟩, ⟨some 12, .p (.notB), [.t 11], none⟩]) (.cond (.t 12) (.seq (.ops false [] [⟨some 4, .p (.mov), [.c (.bool false)], none⟩]) (.ret)) (.skip))) (.seq (.seq (.ops false [] [⟨some 13, .load 7 true, [.t 2], none⟩, ⟨some 14, .call 23, [.t 13], none⟩, ⟨some 15, .p (.notB), [.t 14], none⟩]) (.cond (.t 15) (.seq (.ops false [] [⟨some 4, .p (.mov), [.c (.bool true)], none⟩]) (.ret)) (.skip))) (.seq (.ops false [] [⟨some 17, .load 7 true, [.t 2], none⟩, ⟨some 18, .call 25, [.t 17], none⟩, ⟨some 19, .call 41, [.t 18], none⟩, ⟨some 16, .p (.mov), [.t 19], none⟩, ⟨some 20, .p (.ext 0), [.t 16], none⟩, ⟨some 21, .p (.ext 1), [.t 16], none⟩, ⟨some 5, .p (.mov), [.t 20], none⟩, ⟨some 6, .p (.mov), [.t 21], none⟩]) (.seq (.ops true [] [⟨some 23, .load 7 true, [.t 2], none⟩, ⟨some 24, .call 25, [.t 23], none⟩, ⟨some 25, .load 2 true, [.t 3], none⟩, ⟨some 26, .call 42, [.t 24, .t 25], none⟩, ⟨some 22, .p (.mov), [.t 26], none⟩, ⟨some 27, .p (.ext 0), [.t 22], none⟩, ⟨some 28, .p (.ext 1), [.t 22], none⟩, ⟨some 7, .p (.mov), [.t 27], none⟩, ⟨some 8, .p (.mov), [.t 28], none⟩]) (.seq (.ops false [] [⟨some 30, .load 7 true, [.t 2], none⟩, ⟨some 31, .call 43, [.t 30], none⟩, ⟨some 29, .p (.mov), [.t 31], none⟩, ⟨some 32, .p (.ext 0), [.t 29], none⟩, ⟨some 33, .p (.ext 1), [.t 29], none⟩, ⟨some 9, .p (.mov), [.t 32], none⟩, ⟨some 10, .p (.mov), [.t 33], none⟩]) (.seq (.seq (.ops false [] [⟨some 34, .p (.mov), [.t 6], none⟩, ⟨some 35, .p (.mov), [.t 10], none⟩, ⟨some 36, .p (.binI .neq), [.t 34, .t 35], none⟩, ⟨some 37, .p (.mov), [.t 36], none⟩, ⟨some 38, .p (.mov), [.t 5], some (37, false)⟩, ⟨some 39, .p (.mov), [.t 9], some (37, false)⟩, ⟨some 40, .p (.binI .neq), [.t 38, .t 39], some (37, false)⟩, ⟨some 41, .p (.pick), [.t 37, .c (.bool true), .t 40], none⟩]) (.cond (.t 41) (.seq (.ops false [] [⟨some 4, .p (.mov), [.c (.bool false)], none⟩]) (.ret)) (.skip))) (.seq (.seq (.ops false [] [⟨some 42, .p (.mov), [.t 10], none⟩, ⟨some 43, .p (.binI .eql), [.t 42, .c (.int .i64 0)], none⟩]) (.cond (.t 43) (.ops false [] [⟨some 44, .load 2 true, [.t 3], none⟩, ⟨some 45, .call 44, [.t 44], none⟩, ⟨some 10, .p (.mov), [.t 45], none⟩]) (.skip))) (.seq (.seq (.ops false [] [⟨some 46, .p (.mov), [.t 10], none⟩, ⟨some 47, .p (.binI .neq), [.t 46, .c (.int .i64 0)], none⟩]) (.cond (.t 47) (.seq (.ops false [] [⟨some 48, .p (.mov), [.t 8], none⟩, ⟨some 49, .p (.mov), [.t 10], none⟩, ⟨some 50, .p (.binI .eql), [.t 48, .t 49], none⟩, ⟨some 51, .p (.mov), [.t 50], none⟩, ⟨some 52, .p (.mov), [.t 7], some (51, true)⟩, ⟨some 53, .p (.notB), [.t 52], some (51, true)⟩, ⟨some 54, .p (.pick), [.t 51, .t 53, .c (.bool false)], none⟩, ⟨some 4, .p (.mov), [.t 54], none⟩]) (.ret)) (.skip))) (.seq (.ops false [] [⟨some 55, .p (.mov), [.t 8], none⟩, ⟨some 56, .p (.binI .eql), [.t 55, .c (.int .i64 0)], none⟩, ⟨some 57, .p (.mov), [.t 56], none⟩, ⟨some 58, .p (.mov), [.t 7], some (57, true)⟩, ⟨some 59, .load 7 true, [.t 2], some (57, true)⟩, ⟨some 60, .load 2 true, [.t 3], some (57, true)⟩, ⟨some 61, .call 45, [.t 59, .t 60], some (57, true)⟩, ⟨some 62, .p (.eqB false), [.t 58, .t 61], some (57, true)⟩, ⟨some 63, .p (.pick), [.t 57, .t 62, .c (.bool false)], none⟩, ⟨some 4, .p (.mov), [.t 63], none⟩]) (.ret))))))))))
theorem c7 : FnC Try.prog 7 64 a7 [.tmp 4] := ⟨Try.call7, _, _, Try.func7, rfl, by kernel_rfl, by kernel_rfl, rfl⟩
namespace Sc
theorem k_ScanHeads (h : Hd) (d : Dr) : FOk P 7 [eHd h, eDr d] (.bool true) := by
  have yd := x_rDirectionErr d.az d.el
  have ed : drE ⟨d.az, d.el⟩ = drE d := rfl
  rw [ed] at yd
  by_cases h8 : (h.res.length : Int) ≤ 8
  · have hl : h.res.length ≤ 1000 := by omega
    have hl' : h.res.length ≤ 1099511627776 := by omega
    have yc := x_CopyHead h (by simp only [hl])
    have y1 := x_CheckHead h (by simp only [hl'])
    have y2 := x_IsReserved h d (by simp only [hl'])
    have y3 := x_rCheckHead h (by simp only [hl])
    have e2 : (hdC h).2 = hdE h := rfl
    rw [e2] at y1 y3
    generalize (hdC h).1 = k at *
    by_cases c1 : hdE h = 0
    · by_cases c2 : drE d = 0
      · have y4 := x_rIsReserved h d (by simp only [eq_iff_iff, iff_true]; exact okR_of c1 (drE_zero c2))
        have hv : isV h d = .tup [B (resv h.res d), I 0] := if_pos (by simp [isE, firstE, c1, c2])
        rw [hv] at y2
        generalize resv h.res d = b at *
        refine c7.fok (by simp only [free_Hs, free_Hd, subs, sub1, free_Se]) (Cor.run (addC_good g_rIsReserved (addC_good g_rDirectionErr (addC_good g_rCheckHead (addC_good g_IsReserved (addC_good g_CheckHead (addC_good g_CopyHead (addC_good g_few (addC_good g_awake (noC_good _))))))))) (noHx_good _) hm ?_)
        simp +contextual -implicitDefEqProofs (maxSteps := 2000000) only [bg_eq, a7, x_awake, x_few, yc, yd, y1, y2, y3, y4, h8, c1, c2, not_true_eq_false, not_false_eq_true, ne_eq, ruB, rh_no, Int.reduceLT, Int.reduceLE, Int.reduceAdd, Int.reduceSub, Int.reduceMul, Int.reduceNeg, Int.reduceToNat, Int.reduceEq, Int.reduceNe, Int.reduceTDiv, Int.reduceTMod, implies_true, putL, appN, appX, appC, Eng.Fi, reduceCtorEq, exists_eq_left', exists_eq_left, if_true, if_false, List.replicate, Nat.reduceAdd, Nat.reduceSub, Nat.reduceMul, Nat.reduceLeDiff, Nat.reduceLT, Nat.reduceEqDiff]
      · have hv : isV h d = .tup [B false, I (drE d)] := by
          have : isE h d = drE d := by simp [isE, firstE, c1, c2]
          rw [isV, this, if_neg c2]
        rw [hv] at y2
        refine c7.fok (by simp only [free_Hs, free_Hd, subs, sub1, free_Se]) (Cor.run (addC_good g_rIsReserved (addC_good g_rDirectionErr (addC_good g_rCheckHead (addC_good g_IsReserved (addC_good g_CheckHead (addC_good g_CopyHead (addC_good g_few (addC_good g_awake (noC_good _))))))))) (noHx_good _) hm ?_)
        simp +contextual -implicitDefEqProofs (maxSteps := 2000000) only [bg_eq, a7, x_awake, x_few, yc, yd, y1, y2, y3, h8, c1, c2, not_true_eq_false, not_false_eq_true, ne_eq, ruB, rh_no, Int.reduceLT, Int.reduceLE, Int.reduceAdd, Int.reduceSub, Int.reduceMul, Int.reduceNeg, Int.reduceToNat, Int.reduceEq, Int.reduceNe, Int.reduceTDiv, Int.reduceTMod, implies_true, putL, appN, appX, appC, Eng.Fi, reduceCtorEq, exists_eq_left', exists_eq_left, if_true, if_false, List.replicate, Nat.reduceAdd, Nat.reduceSub, Nat.reduceMul, Nat.reduceLeDiff, Nat.reduceLT, Nat.reduceEqDiff]
    · have hv : isV h d = .tup [B false, I (hdE h)] := by
        have : isE h d = hdE h := by simp [isE, firstE, c1]
        rw [isV, this, if_neg c1]
      rw [hv] at y2
      refine c7.fok (by simp only [free_Hs, free_Hd, subs, sub1, free_Se]) (Cor.run (addC_good g_rIsReserved (addC_good g_rDirectionErr (addC_good g_rCheckHead (addC_good g_IsReserved (addC_good g_CheckHead (addC_good g_CopyHead (addC_good g_few (addC_good g_awake (noC_good _))))))))) (noHx_good _) hm ?_)
      simp +contextual -implicitDefEqProofs (maxSteps := 2000000) only [bg_eq, a7, x_awake, x_few, yc, yd, y1, y2, y3, h8, c1, not_true_eq_false, not_false_eq_true, ne_eq, ruB, rh_no, Int.reduceLT, Int.reduceLE, Int.reduceAdd, Int.reduceSub, Int.reduceMul, Int.reduceNeg, Int.reduceToNat, Int.reduceEq, Int.reduceNe, Int.reduceTDiv, Int.reduceTMod, implies_true, putL, appN, appX, appC, Eng.Fi, reduceCtorEq, exists_eq_left', exists_eq_left, if_true, if_false, List.replicate, Nat.reduceAdd, Nat.reduceSub, Nat.reduceMul, Nat.reduceLeDiff, Nat.reduceLT, Nat.reduceEqDiff]
  · refine c7.fok (by simp only [free_Hs, free_Hd, subs, sub1, free_Se]) (Cor.run (addC_good g_rIsReserved (addC_good g_rDirectionErr (addC_good g_rCheckHead (addC_good g_IsReserved (addC_good g_CheckHead (addC_good g_CopyHead (addC_good g_few (addC_good g_awake (noC_good _))))))))) (noHx_good _) hm ?_)
    simp +contextual -implicitDefEqProofs (maxSteps := 2000000) only [bg_eq, a7, x_awake, x_few, h8, not_true_eq_false, not_false_eq_true, ne_eq, ruB, rh_no, Int.reduceLT, Int.reduceLE, Int.reduceAdd, Int.reduceSub, Int.reduceMul, Int.reduceNeg, Int.reduceToNat, Int.reduceEq, Int.reduceNe, Int.reduceTDiv, Int.reduceTMod, implies_true, putL, appN, appX, appC, Eng.Fi, reduceCtorEq, exists_eq_left', exists_eq_left, if_true, if_false, List.replicate, Nat.reduceAdd, Nat.reduceSub, Nat.reduceMul, Nat.reduceLeDiff, Nat.reduceLT, Nat.reduceEqDiff]
theorem law7 (n0 : Nat) (u0 : AV) (a0 : ArG P n0 42 u0) (n1 : Nat) (u1 : AV) (a1 : ArG P n1 37 u1) : FOk P 7 [u0, u1] (.bool true) := by
  obtain ⟨h, rfl, _⟩ := arHead a0
  obtain ⟨d, rfl⟩ := arDir a1
  exact k_ScanHeads h d
end Sc
