import Derived.Test.YtabkbhpeeefmgaaEngS9
import Derived.Test.YtabkbhpeeefmgaaW37
open Go Go.Proofs Eng
set_option maxRecDepth 100000
set_option linter.unusedSimpArgs false
set_option linter.unusedVariables false
def a11 : AC := .seq (.ops false [] [⟨some 3, .box 50 6 1 true, [.t 0], none⟩, ⟨some 4, .box 52 6 1 true, [.t 1], none⟩, ⟨some 6, .p (.mov), [.c (.bool false)], none⟩]) (.seq (.seq (.ops false [] [⟨some 12, .call 13, [], none⟩, ⟨some 13, .p (.notB), [.t 12], none⟩]) (.cond (.t 13) (.seq (.ops false [] [⟨some 6, .p (.mov), [.c (.bool false)], none⟩]) (.ret)) (.skip))) (.seq (.seq (.ops false [] [⟨some 14, .p (.mov), [.t 2], none⟩, ⟨some 15, .p (.lenS), [.t 14], none⟩, ⟨some 16, .p (.binI .gtr), [.t 15, .c (.int .i64 30)], none⟩]) (.cond (.t 16) (.seq (.ops false [] [⟨some 6, .p (.mov), [.c (.bool true)], none⟩]) (.ret)) (.skip))) (.seq (.ops true [] [⟨some 18, .load 6 true, [.t 3], none⟩, ⟨some 19, .load 6 true, [.t 4], none⟩, ⟨some 20, .p (.mov), [.t 2], none⟩, ⟨some 21, .call 22, [.t 20], none⟩, ⟨some 22, .call 67, [.t 18, .t 19, .t 21], none⟩, ⟨some 17, .p (.mov), [.t 22], none⟩, ⟨some 23, .p (.ext 0), [.t 17], none⟩, ⟨some 24, .p (.ext 1), [.t 17], none⟩, ⟨some 7, .p (.mov), [.t 23], none⟩, ⟨some 8, .p (.mov), [.t 24], none⟩]) (.seq (.seq (.ops false [] [⟨some 25, .load 6 true, [.t 3], none⟩, ⟨some 26, .load 6 true, [.t 4], none⟩, ⟨some 27, .call 68, [.t 25, .t 26], none⟩, ⟨some 9, .p (.mov), [.t 27], none⟩]) (.seq (.ops false [] [⟨some 28, .p (.mov), [.t 9], none⟩, ⟨some 29, .p (.binI .neq), [.t 28, .c (.int .i64 0)], none⟩]) (.cond (.t 29) (.seq (.ops false [] [⟨some 30, .p (.mov), [.t 8], none⟩, ⟨some 31, .p (.mov), [.t 9], none⟩, ⟨some 32, .p (.binI .eql), [.t 30, .t 31], none⟩, ⟨some 33, .p (.mov), [.t 32], none⟩, ⟨some 34, .p (.mov), [.t 7], some (33, true)⟩, ⟨some 35, .p (.binI .eql), [.t 34, .c (.int .i64 0)], some (33, true)⟩, ⟨some 36, .p (.pick), [.t 33, .t 35, .c (.bool false)], none⟩, ⟨some 6, .p (.mov), [.t 36], none⟩]) (.ret)) (.skip)))) (.seq (.ops false [] [⟨some 38, .load 6 true, [.t 3], none⟩, ⟨some 39, .load 6 true, [.t 4], none⟩, ⟨some 40, .p (.mov), [.t 2], none⟩, ⟨some 41, .call 69, [.t 38, .t 39, .t 40], none⟩, ⟨some 37, .p (.mov), [.t 41], none⟩, ⟨some 42, .p (.ext 0), [.t 37], none⟩, ⟨some 43, .p (.ext 1), [.t 37], none⟩, ⟨some 10, .p (.mov), [.t 42], none⟩, ⟨some 11, .p (.mov), [.t 43], none⟩]) (.seq (.ops false [] [⟨some 44, .p (.mov), [.t 8], none⟩, ⟨some 45, .p (.mov), [.t 11], none⟩, ⟨some 46, .p (.binI .eql), [.t 44, .t 45], none⟩, ⟨some 47, .p (.mov), [.t 46], none⟩, ⟨some 48, .p (.mov), [.t 7], some (47, true)⟩, ⟨some 49, .p (.mov), [.t 10], some (47, true)⟩, ⟨some 50, .p (.binI .eql), [.t 48, .t 49], some (47, true)⟩, ⟨some 51, .p (.pick), [.t 47, .t 50, .c (.bool false)], none⟩, ⟨some 6, .p (.mov), [.t 51], none⟩]) (.ret)))))))
theorem c11 : FnC Try.prog 11 52 a11 [.tmp 6] := ⟨Try.call11, _, _, Try.func11, rfl, by kernel_rfl, by kernel_rfl, rfl⟩
namespace Wa
theorem arVortices {n : Nat} {u : AV} (h : ArG P n 34 u) : ∃ l : List Vo, u = .vs (l.map eVo) ∧ l.length ≤ maxLen := by
  have hh := h.one 6 (k := .sl true [.i, .i, .i]) (by kernel_rfl) (by kernel_rfl)
  simp only [ShV, ShV1] at hh
  obtain ⟨l, rfl, hl, hlen⟩ := hh
  obtain ⟨gs, e1, e2⟩ := sl_enc (α := Vo) eVo (ag := true) (fun p hp => by
    obtain ⟨_, _, rfl, ⟨a, rfl, _⟩, _, _, rfl, ⟨b, rfl, _⟩, _, _, rfl, ⟨c, rfl, _⟩, rfl⟩ := hp
    exact ⟨⟨a, b, c⟩, rfl⟩) hl
  rw [e1]
  exact ⟨gs, rfl, by rw [e2]; exact hlen⟩
theorem cpV_bad {b d : Bx} {l : List Vo} (h : ¬ mvE b d = 0) : cpV b d l = (0, mvE b d) := by
  have : cpE b d l = mvE b d := by
    unfold mvE at h ⊢
    rw [cpE]
    by_cases h1 : bxE b = 0
    · rw [if_pos h1] at h ⊢
      rw [h1, fE0, fE1 h]
    · rw [if_neg h1] at h ⊢
      rw [fE1 h]
  rw [cpV, this, if_neg h]
set_option maxHeartbeats 4000000 in
theorem k_WakePaths (b d : Bx) (l : List Vo) (hm0 : l.length ≤ maxLen) : FOk P 11 [eBx b, eBx d, .vs (l.map eVo)] (.bool true) := by
  by_cases h3 : 30 < l.length
  · have h3' : ((30 : Int) < (l.length : Int)) = True := eq_true (by omega)
    refine c11.fok (by simp only [subs, sub1, free_Vo]) (Cor.run (addC_good g_rCheckPath (addC_good g_rMovesErr (addC_good g_CheckPath (addC_good g_CopyVortices (addC_good g_awake (noC_good _)))))) (noHx_good _) hm ?_)
    simp +contextual -implicitDefEqProofs (maxSteps := 2000000) only [bg_eq, a11, x_awake, List.length_map, h3', not_true_eq_false, ruB, rh_no, Int.reduceLT, Int.reduceLE, Int.reduceAdd, Int.reduceSub, Int.reduceMul, Int.reduceNeg, Int.reduceToNat, Int.reduceEq, Int.reduceNe, Int.reduceTDiv, Int.reduceTMod, implies_true, putL, appN, appX, appC, Eng.Fi, reduceCtorEq, exists_eq_left', exists_eq_left, if_true, if_false, List.replicate, Nat.reduceAdd, Nat.reduceSub, Nat.reduceMul, Nat.reduceLeDiff, Nat.reduceLT, Nat.reduceEqDiff]
  · have h3' : ((30 : Int) < (l.length : Int)) = False := eq_false (by omega)
    have y1 := x_CopyVortices l (by simp only [eq_iff_iff, iff_true]; omega)
    have y2 := x_CheckPath b d l (by simp only [eq_iff_iff, iff_true]; omega)
    have y3 := x_rMovesErr b d
    by_cases h0 : mvE b d = 0
    · have h0' := eq_true h0
      have y4 := x_rCheckPath b d l (by simp only [eq_iff_iff, iff_true]; exact ⟨h0, by omega⟩)
      generalize cpV b d l = q at *
      refine c11.fok (by simp only [subs, sub1, free_Vo]) (Cor.run (addC_good g_rCheckPath (addC_good g_rMovesErr (addC_good g_CheckPath (addC_good g_CopyVortices (addC_good g_awake (noC_good _)))))) (noHx_good _) hm ?_)
      simp +contextual -implicitDefEqProofs (maxSteps := 2000000) only [bg_eq, a11, x_awake, List.length_map, h3', y1, y2, y3, y4, h0', not_true_eq_false, ruB, rh_no, Int.reduceLT, Int.reduceLE, Int.reduceAdd, Int.reduceSub, Int.reduceMul, Int.reduceNeg, Int.reduceToNat, Int.reduceEq, Int.reduceNe, Int.reduceTDiv, Int.reduceTMod, implies_true, putL, appN, appX, appC, Eng.Fi, reduceCtorEq, exists_eq_left', exists_eq_left, if_true, if_false, List.replicate, Nat.reduceAdd, Nat.reduceSub, Nat.reduceMul, Nat.reduceLeDiff, Nat.reduceLT, Nat.reduceEqDiff]
    · have h0' := eq_false h0
      rw [cpV_bad h0] at y2
      refine c11.fok (by simp only [subs, sub1, free_Vo]) (Cor.run (addC_good g_rCheckPath (addC_good g_rMovesErr (addC_good g_CheckPath (addC_good g_CopyVortices (addC_good g_awake (noC_good _)))))) (noHx_good _) hm ?_)
      simp +contextual -implicitDefEqProofs (maxSteps := 2000000) only [bg_eq, a11, x_awake, List.length_map, h3', y1, y2, y3, h0', not_true_eq_false, not_false_eq_true, ruB, rh_no, Int.reduceLT, Int.reduceLE, Int.reduceAdd, Int.reduceSub, Int.reduceMul, Int.reduceNeg, Int.reduceToNat, Int.reduceEq, Int.reduceNe, Int.reduceTDiv, Int.reduceTMod, implies_true, putL, appN, appX, appC, Eng.Fi, reduceCtorEq, exists_eq_left', exists_eq_left, if_true, if_false, List.replicate, Nat.reduceAdd, Nat.reduceSub, Nat.reduceMul, Nat.reduceLeDiff, Nat.reduceLT, Nat.reduceEqDiff]
theorem law11 (n0 : Nat) (u0 : AV) (a0 : ArG P n0 50 u0) (n1 : Nat) (u1 : AV) (a1 : ArG P n1 52 u1) (n2 : Nat) (u2 : AV) (a2 : ArG P n2 34 u2) : FOk P 11 [u0, u1, u2] (.bool true) := by
  obtain ⟨a, rfl⟩ := arBox a0
  obtain ⟨b, rfl⟩ := arDrift a1
  obtain ⟨l, rfl, hl⟩ := arVortices a2
  exact k_WakePaths a b l hl
end Wa
