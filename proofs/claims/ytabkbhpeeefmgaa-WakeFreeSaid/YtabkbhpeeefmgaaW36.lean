import Derived.Test.YtabkbhpeeefmgaaEngS9
import Derived.Test.YtabkbhpeeefmgaaW35
open Go Go.Proofs Eng
set_option maxRecDepth 100000
set_option linter.unusedSimpArgs false
set_option linter.unusedVariables false
def a10 : AC := .seq (.ops false [] [⟨some 3, .box 50 6 1 true, [.t 0], none⟩, ⟨some 4, .box 52 6 1 true, [.t 1], none⟩, ⟨some 5, .box 123 7 1 true, [.t 2], none⟩, ⟨some 6, .p (.mov), [.c (.bool false)], none⟩]) (.seq (.seq (.ops false [] [⟨some 14, .call 13, [], none⟩, ⟨some 15, .p (.notB), [.t 14], none⟩]) (.cond (.t 15) (.seq (.ops false [] [⟨some 6, .p (.mov), [.c (.bool false)], none⟩]) (.ret)) (.skip))) (.seq (.seq (.ops false [] [⟨some 16, .p (.faddr 6), [.t 5], none⟩, ⟨some 17, .load 1 false, [.t 16], none⟩, ⟨some 18, .call 20, [.t 17, .c (.int .i64 61), .c (.int .i64 1000)], none⟩]) (.cond (.t 18) (.seq (.ops false [] [⟨some 6, .p (.mov), [.c (.bool true)], none⟩]) (.ret)) (.skip))) (.seq (.ops false [] [⟨some 20, .load 6 true, [.t 3], none⟩, ⟨some 21, .load 6 true, [.t 4], none⟩, ⟨some 22, .load 7 true, [.t 5], none⟩, ⟨some 23, .call 62, [.t 20, .t 21, .t 22], none⟩, ⟨some 19, .p (.mov), [.t 23], none⟩, ⟨some 24, .p (.ext 0), [.t 19], none⟩, ⟨some 25, .p (.ext 1), [.t 19], none⟩, ⟨some 7, .p (.mov), [.t 24], none⟩, ⟨some 8, .p (.mov), [.t 25], none⟩]) (.seq (.ops false [] [⟨some 27, .load 6 true, [.t 3], none⟩, ⟨some 28, .load 6 true, [.t 4], none⟩, ⟨some 29, .load 7 true, [.t 5], none⟩, ⟨some 30, .call 63, [.t 27, .t 28, .t 29], none⟩, ⟨some 26, .p (.mov), [.t 30], none⟩, ⟨some 31, .p (.ext 0), [.t 26], none⟩, ⟨some 32, .p (.ext 1), [.t 26], none⟩, ⟨some 9, .p (.mov), [.t 31], none⟩, ⟨some 10, .p (.mov), [.t 32], none⟩]) (.seq (.seq (.ops false [] [⟨some 33, .load 6 true, [.t 3], none⟩, ⟨some 34, .load 6 true, [.t 4], none⟩, ⟨some 35, .load 7 true, [.t 5], none⟩, ⟨some 36, .call 64, [.t 33, .t 34, .t 35], none⟩, ⟨some 11, .p (.mov), [.t 36], none⟩]) (.seq (.ops false [] [⟨some 37, .p (.mov), [.t 11], none⟩, ⟨some 38, .p (.binI .neq), [.t 37, .c (.int .i64 0)], none⟩]) (.cond (.t 38) (.seq (.ops false [] [⟨some 39, .p (.mov), [.t 8], none⟩, ⟨some 40, .p (.mov), [.t 11], none⟩, ⟨some 41, .p (.binI .eql), [.t 39, .t 40], none⟩, ⟨some 42, .p (.mov), [.t 41], none⟩, ⟨some 43, .p (.mov), [.t 10], some (42, true)⟩, ⟨some 44, .p (.mov), [.t 11], some (42, true)⟩, ⟨some 45, .p (.binI .eql), [.t 43, .t 44], some (42, true)⟩, ⟨some 46, .p (.pick), [.t 42, .t 45, .c (.bool false)], none⟩, ⟨some 47, .p (.mov), [.t 46], none⟩, ⟨some 48, .p (.mov), [.t 7], some (47, true)⟩, ⟨some 49, .p (.binI .eql), [.t 48, .c (.int .i64 0)], some (47, true)⟩, ⟨some 50, .p (.pick), [.t 47, .t 49, .c (.bool false)], none⟩, ⟨some 51, .p (.mov), [.t 50], none⟩, ⟨some 52, .p (.mov), [.t 9], some (51, true)⟩, ⟨some 53, .p (.binI .eql), [.t 52, .c (.int .i64 0)], some (51, true)⟩, ⟨some 54, .p (.pick), [.t 51, .t 53, .c (.bool false)], none⟩, ⟨some 6, .p (.mov), [.t 54], none⟩]) (.ret)) (.skip)))) (.seq (.ops false [] [⟨some 56, .load 6 true, [.t 3], none⟩, ⟨some 57, .load 6 true, [.t 4], none⟩, ⟨some 58, .load 7 true, [.t 5], none⟩, ⟨some 59, .call 65, [.t 56, .t 57, .t 58], none⟩, ⟨some 55, .p (.mov), [.t 59], none⟩, ⟨some 60, .p (.ext 0), [.t 55], none⟩, ⟨some 61, .p (.ext 1), [.t 55], none⟩, ⟨some 12, .p (.mov), [.t 60], none⟩, ⟨some 13, .p (.mov), [.t 61], none⟩]) (.seq (.ops false [] [⟨some 62, .p (.mov), [.t 8], none⟩, ⟨some 63, .p (.binI .eql), [.t 62, .c (.int .i64 0)], none⟩, ⟨some 64, .p (.mov), [.t 63], none⟩, ⟨some 65, .p (.mov), [.t 7], some (64, true)⟩, ⟨some 66, .load 6 true, [.t 3], some (64, true)⟩, ⟨some 67, .load 6 true, [.t 4], some (64, true)⟩, ⟨some 68, .load 7 true, [.t 5], some (64, true)⟩, ⟨some 69, .call 66, [.t 66, .t 67, .t 68], some (64, true)⟩, ⟨some 70, .p (.binI .eql), [.t 65, .t 69], some (64, true)⟩, ⟨some 71, .p (.pick), [.t 64, .t 70, .c (.bool false)], none⟩, ⟨some 72, .p (.mov), [.t 71], none⟩, ⟨some 73, .p (.mov), [.t 13], some (72, true)⟩, ⟨some 74, .p (.mov), [.t 73], some (72, true)⟩, ⟨some 75, .p (.mov), [.t 10], some (74, true)⟩, ⟨some 76, .p (.binI .eql), [.t 75, .c (.int .i64 0)], some (74, true)⟩, ⟨some 77, .p (.pick), [.t 74, .t 76, .c (.bool false)], some (72, true)⟩, ⟨some 78, .p (.mov), [.t 77], some (72, true)⟩, ⟨some 79, .p (.mov), [.t 9], some (78, true)⟩, ⟨some 80, .p (.mov), [.t 12], some (78, true)⟩, ⟨some 81, .p (.binI .eql), [.t 79, .t 80], some (78, true)⟩, ⟨some 82, .p (.pick), [.t 78, .t 81, .c (.bool false)], some (72, true)⟩, ⟨some 83, .p (.mov), [.t 82], some (72, true)⟩, ⟨some 84, .p (.mov), [.t 13], some (83, false)⟩, ⟨some 85, .p (.notB), [.t 84], some (83, false)⟩, ⟨some 86, .p (.mov), [.t 85], some (83, false)⟩, ⟨some 87, .p (.mov), [.t 10], some (86, true)⟩, ⟨some 88, .p (.binI .eql), [.t 87, .c (.int .i64 12)], some (86, true)⟩, ⟨some 89, .p (.pick), [.t 86, .t 88, .c (.bool false)], some (83, false)⟩, ⟨some 90, .p (.mov), [.t 89], some (83, false)⟩, ⟨some 91, .p (.mov), [.t 9], some (90, true)⟩, ⟨some 92, .p (.binI .eql), [.t 91, .c (.int .i64 0)], some (90, true)⟩, ⟨some 93, .p (.pick), [.t 90, .t 92, .c (.bool false)], some (83, false)⟩, ⟨some 94, .p (.pick), [.t 83, .c (.bool true), .t 93], some (72, true)⟩, ⟨some 95, .p (.pick), [.t 72, .t 94, .c (.bool false)], none⟩, ⟨some 6, .p (.mov), [.t 95], none⟩]) (.ret))))))))
theorem c10 : FnC Try.prog 10 96 a10 [.tmp 6] := ⟨Try.call10, _, _, Try.func10, rfl, by kernel_rfl, by kernel_rfl, rfl⟩
namespace Wa
theorem arCorridor {n : Nat} {u : AV} (h : ArG P n 123 u) : ∃ c : Co, u = eCo c := by
  obtain ⟨us, rfl, hh⟩ := h.agg 6 (ks := [.i, .i, .i, .i, .i, .i, .i]) (by kernel_rfl) (by kernel_rfl)
  simp only [ShV, ShV1] at hh
  obtain ⟨_, _, rfl, ⟨a, rfl, _⟩, _, _, rfl, ⟨b', rfl, _⟩, _, _, rfl, ⟨c, rfl, _⟩, _, _, rfl, ⟨d, rfl, _⟩, _, _, rfl, ⟨e, rfl, _⟩, _, _, rfl, ⟨f, rfl, _⟩, _, _, rfl, ⟨t, rfl, _⟩, rfl⟩ := hh
  exact ⟨⟨a, b', c, d, e, f, t⟩, rfl⟩
set_option maxHeartbeats 4000000 in
theorem k_WakeFree (b d : Bx) (c : Co) : FOk P 10 [eBx b, eBx d, eCo c] (.bool true) := by
  by_cases hw : 61 ≤ c.to ∧ c.to ≤ 1000
  · have hw' := eq_true hw
    refine c10.fok rfl (Cor.run (addC_good g_rFree (addC_good g_rEarliest (addC_good g_rFreeErr (addC_good g_EarliestFree (addC_good g_IsFree (addC_good g_Within (addC_good g_awake (noC_good _)))))))) (noHx_good _) hm ?_)
    simp +contextual -implicitDefEqProofs (maxSteps := 2000000) only [bg_eq, a10, x_awake, x_Within, hw', not_true_eq_false, ruB, rh_no, Int.reduceLT, Int.reduceLE, Int.reduceAdd, Int.reduceSub, Int.reduceMul, Int.reduceNeg, Int.reduceToNat, Int.reduceEq, Int.reduceNe, Int.reduceTDiv, Int.reduceTMod, implies_true, putL, appN, appX, appC, Eng.Fi, reduceCtorEq, exists_eq_left', exists_eq_left, if_true, if_false, List.replicate, Nat.reduceAdd, Nat.reduceSub, Nat.reduceMul, Nat.reduceLeDiff, Nat.reduceLT, Nat.reduceEqDiff]
  · have hw' := eq_false hw
    have y1 := x_IsFree b d c
    have y2 := x_EarliestFree b d c
    have y3 := x_rFreeErr b d c
    have hoc := feE_oc b d c
    by_cases h0 : ocE b d c = 0
    · have y4 := x_rFree b d c (by simp only [h0])
      have y5 := x_rEarliest b d c (by simp only [h0])
      have hf : feE b d c = 0 := by rw [← hoc]; exact h0
      rw [hf] at y3
      rw [iFV, if_pos h0] at y1
      rw [eRV, if_pos h0] at y2
      generalize iF b d c = n at *
      by_cases he : eR b d c = c.to
      · rw [if_pos he] at y2
        rw [eaV, if_pos he] at y5
        refine c10.fok rfl (Cor.run (addC_good g_rFree (addC_good g_rEarliest (addC_good g_rFreeErr (addC_good g_EarliestFree (addC_good g_IsFree (addC_good g_Within (addC_good g_awake (noC_good _)))))))) (noHx_good _) hm ?_)
        simp +contextual -implicitDefEqProofs (maxSteps := 2000000) only [bg_eq, a10, x_awake, x_Within, hw', y1, y2, y3, y4, y5, not_true_eq_false, not_false_eq_true, ruB, rh_no, Int.reduceLT, Int.reduceLE, Int.reduceAdd, Int.reduceSub, Int.reduceMul, Int.reduceNeg, Int.reduceToNat, Int.reduceEq, Int.reduceNe, Int.reduceTDiv, Int.reduceTMod, implies_true, putL, appN, appX, appC, Eng.Fi, reduceCtorEq, exists_eq_left', exists_eq_left, if_true, if_false, List.replicate, Nat.reduceAdd, Nat.reduceSub, Nat.reduceMul, Nat.reduceLeDiff, Nat.reduceLT, Nat.reduceEqDiff]
      · rw [if_neg he] at y2
        rw [eaV, if_neg he] at y5
        refine c10.fok rfl (Cor.run (addC_good g_rFree (addC_good g_rEarliest (addC_good g_rFreeErr (addC_good g_EarliestFree (addC_good g_IsFree (addC_good g_Within (addC_good g_awake (noC_good _)))))))) (noHx_good _) hm ?_)
        simp +contextual -implicitDefEqProofs (maxSteps := 2000000) only [bg_eq, a10, x_awake, x_Within, hw', y1, y2, y3, y4, y5, not_true_eq_false, not_false_eq_true, ruB, rh_no, Int.reduceLT, Int.reduceLE, Int.reduceAdd, Int.reduceSub, Int.reduceMul, Int.reduceNeg, Int.reduceToNat, Int.reduceEq, Int.reduceNe, Int.reduceTDiv, Int.reduceTMod, implies_true, putL, appN, appX, appC, Eng.Fi, reduceCtorEq, exists_eq_left', exists_eq_left, if_true, if_false, List.replicate, Nat.reduceAdd, Nat.reduceSub, Nat.reduceMul, Nat.reduceLeDiff, Nat.reduceLT, Nat.reduceEqDiff]
    · have hf : ¬ feE b d c = 0 := by rw [← hoc]; exact h0
      have hf' := eq_false hf
      rw [iFV, if_neg h0, hoc] at y1
      rw [eRV, if_neg h0, hoc] at y2
      refine c10.fok rfl (Cor.run (addC_good g_rFree (addC_good g_rEarliest (addC_good g_rFreeErr (addC_good g_EarliestFree (addC_good g_IsFree (addC_good g_Within (addC_good g_awake (noC_good _)))))))) (noHx_good _) hm ?_)
      simp +contextual -implicitDefEqProofs (maxSteps := 2000000) only [bg_eq, a10, x_awake, x_Within, hw', y1, y2, y3, hf', not_true_eq_false, not_false_eq_true, ruB, rh_no, Int.reduceLT, Int.reduceLE, Int.reduceAdd, Int.reduceSub, Int.reduceMul, Int.reduceNeg, Int.reduceToNat, Int.reduceEq, Int.reduceNe, Int.reduceTDiv, Int.reduceTMod, implies_true, putL, appN, appX, appC, Eng.Fi, reduceCtorEq, exists_eq_left', exists_eq_left, if_true, if_false, List.replicate, Nat.reduceAdd, Nat.reduceSub, Nat.reduceMul, Nat.reduceLeDiff, Nat.reduceLT, Nat.reduceEqDiff]
theorem law10 (n0 : Nat) (u0 : AV) (a0 : ArG P n0 50 u0) (n1 : Nat) (u1 : AV) (a1 : ArG P n1 52 u1) (n2 : Nat) (u2 : AV) (a2 : ArG P n2 123 u2) : FOk P 10 [u0, u1, u2] (.bool true) := by
  obtain ⟨a, rfl⟩ := arBox a0
  obtain ⟨b, rfl⟩ := arDrift a1
  obtain ⟨c, rfl⟩ := arCorridor a2
  exact k_WakeFree a b c
end Wa
