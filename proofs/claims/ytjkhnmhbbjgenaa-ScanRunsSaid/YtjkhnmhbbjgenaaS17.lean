import Derived.Test.YtjkhnmhbbjgenaaEngS9
import Derived.Test.YtjkhnmhbbjgenaaS16
import Derived.Test.YtjkhnmhbbjgenaaEngSE
open Go Go.Proofs Eng
set_option maxRecDepth 100000
set_option linter.unusedSimpArgs false
set_option linter.unusedVariables false
def a5 : AC := .seq (.ops false [] [⟨some 3, .box 39 2 1 true, [.t 0], none⟩, ⟨some 6, .p (.mov), [.c (.bool false)], none⟩]) (.seq (.seq (.ops false [] [⟨some 13, .call 15, [], none⟩, ⟨some 14, .p (.notB), [.t 13], none⟩]) (.cond (.t 14) (.seq (.ops false [] [⟨some 6, .p (.mov), [.c (.bool false)], none⟩]) (.ret)) (.skip))) (.seq (.ops false [] [⟨some 15, .load 2 true, [.t 3], none⟩, ⟨some 16, .call 34, [.t 15], none⟩, ⟨some 7, .p (.mov), [.t 16], none⟩]) (.seq (.ops false [] [⟨some 18, .load 2 true, [.t 3], none⟩, ⟨some 19, .p (.mov), [.t 1], none⟩, ⟨some 20, .call 35, [.t 18, .t 19], none⟩, ⟨some 17, .p (.mov), [.t 20], none⟩, ⟨some 21, .p (.ext 0), [.t 17], none⟩, ⟨some 22, .p (.ext 1), [.t 17], none⟩, ⟨some 8, .p (.mov), [.t 21], none⟩, ⟨some 9, .p (.mov), [.t 22], none⟩]) (.seq (.ops false [] [⟨some 24, .load 2 true, [.t 3], none⟩, ⟨some 25, .p (.mov), [.t 2], none⟩, ⟨some 26, .call 36, [.t 24, .t 25], none⟩, ⟨some 23, .p (.mov), [.t 26], none⟩, ⟨some 27, .p (.ext 0), [.t 23], none⟩, ⟨some 28, .p (.ext 1), [.t 23], none⟩, ⟨some 10, .p (.mov), [.t 27], none⟩, ⟨some 11, .p (.mov), [.t 28], none⟩]) (.seq (.seq (.ops false [] [⟨some 29, .load 2 true, [.t 3], none⟩, ⟨some 30, .call 37, [.t 29], none⟩, ⟨some 31, .p (.mov), [.t 7], none⟩, ⟨some 32, .p (.binI .neq), [.t 30, .t 31], none⟩]) (.cond (.t 32) (.seq (.ops false [] [⟨some 6, .p (.mov), [.c (.bool false)], none⟩]) (.ret)) (.skip))) (.seq (.ops false [] [⟨some 33, .p (.mov), [.t 7], none⟩, ⟨some 12, .p (.mov), [.t 33], none⟩]) (.seq (.seq (.ops false [] [⟨some 34, .p (.mov), [.t 7], none⟩, ⟨some 35, .p (.binI .eql), [.t 34, .c (.int .i64 0)], none⟩, ⟨some 36, .p (.mov), [.t 35], none⟩, ⟨some 37, .p (.mov), [.t 1], some (36, true)⟩, ⟨some 38, .call 38, [.t 37, .c (.int .i64 0), .c (.int .i64 1000)], some (36, true)⟩, ⟨some 39, .p (.notB), [.t 38], some (36, true)⟩, ⟨some 40, .p (.pick), [.t 36, .t 39, .c (.bool false)], none⟩]) (.cond (.t 40) (.ops false [] [⟨some 7, .p (.mov), [.c (.int .i64 2)], none⟩]) (.skip))) (.seq (.seq (.ops false [] [⟨some 41, .p (.mov), [.t 12], none⟩, ⟨some 42, .p (.binI .eql), [.t 41, .c (.int .i64 0)], none⟩, ⟨some 43, .p (.mov), [.t 42], none⟩, ⟨some 44, .p (.mov), [.t 2], some (43, true)⟩, ⟨some 45, .call 38, [.t 44, .c (.int .i64 0), .c (.int .i64 360)], some (43, true)⟩, ⟨some 46, .p (.notB), [.t 45], some (43, true)⟩, ⟨some 47, .p (.pick), [.t 43, .t 46, .c (.bool false)], none⟩]) (.cond (.t 47) (.ops false [] [⟨some 12, .p (.mov), [.c (.int .i64 2)], none⟩]) (.skip))) (.seq (.seq (.ops false [] [⟨some 48, .p (.mov), [.t 7], none⟩, ⟨some 49, .p (.binI .neq), [.t 48, .c (.int .i64 0)], none⟩, ⟨some 50, .p (.mov), [.t 49], none⟩, ⟨some 51, .p (.mov), [.t 9], some (50, true)⟩, ⟨some 52, .p (.mov), [.t 7], some (50, true)⟩, ⟨some 53, .p (.binI .neq), [.t 51, .t 52], some (50, true)⟩, ⟨some 54, .p (.mov), [.t 53], some (50, true)⟩, ⟨some 55, .p (.mov), [.t 8], some (54, false)⟩, ⟨some 56, .p (.binI .neq), [.t 55, .c (.int .i64 0)], some (54, false)⟩, ⟨some 57, .p (.pick), [.t 54, .c (.bool true), .t 56], some (50, true)⟩, ⟨some 58, .p (.pick), [.t 50, .t 57, .c (.bool false)], none⟩, ⟨some 59, .p (.mov), [.t 58], none⟩, ⟨some 60, .p (.mov), [.t 7], some (59, false)⟩, ⟨some 61, .p (.binI .eql), [.t 60, .c (.int .i64 0)], some (59, false)⟩, ⟨some 62, .p (.mov), [.t 61], some (59, false)⟩, ⟨some 63, .p (.mov), [.t 9], some (62, true)⟩, ⟨some 64, .p (.binI .neq), [.t 63, .c (.int .i64 0)], some (62, true)⟩, ⟨some 65, .p (.mov), [.t 64], some (62, true)⟩, ⟨some 66, .p (.mov), [.t 8], some (65, false)⟩, ⟨some 67, .load 2 true, [.t 3], some (65, false)⟩, ⟨some 68, .p (.mov), [.t 1], some (65, false)⟩, ⟨some 69, .call 39, [.t 67, .t 68], some (65, false)⟩, ⟨some 70, .p (.binI .neq), [.t 66, .t 69], some (65, false)⟩, ⟨some 71, .p (.pick), [.t 65, .c (.bool true), .t 70], some (62, true)⟩, ⟨some 72, .p (.pick), [.t 62, .t 71, .c (.bool false)], some (59, false)⟩, ⟨some 73, .p (.pick), [.t 59, .c (.bool true), .t 72], none⟩]) (.cond (.t 73) (.seq (.ops false [] [⟨some 6, .p (.mov), [.c (.bool false)], none⟩]) (.ret)) (.skip))) (.seq (.seq (.ops false [] [⟨some 74, .p (.mov), [.t 12], none⟩, ⟨some 75, .p (.binI .neq), [.t 74, .c (.int .i64 0)], none⟩]) (.cond (.t 75) (.seq (.ops false [] [⟨some 76, .p (.mov), [.t 11], none⟩, ⟨some 77, .p (.mov), [.t 12], none⟩, ⟨some 78, .p (.binI .eql), [.t 76, .t 77], none⟩, ⟨some 79, .p (.mov), [.t 78], none⟩, ⟨some 80, .p (.mov), [.t 10], some (79, true)⟩, ⟨some 81, .p (.binI .eql), [.t 80, .c (.int .i64 0)], some (79, true)⟩, ⟨some 82, .p (.pick), [.t 79, .t 81, .c (.bool false)], none⟩, ⟨some 6, .p (.mov), [.t 82], none⟩]) (.ret)) (.skip))) (.seq (.ops false [] [⟨some 83, .p (.mov), [.t 11], none⟩, ⟨some 84, .p (.binI .eql), [.t 83, .c (.int .i64 0)], none⟩, ⟨some 85, .p (.mov), [.t 84], none⟩, ⟨some 86, .p (.mov), [.t 10], some (85, true)⟩, ⟨some 87, .load 2 true, [.t 3], some (85, true)⟩, ⟨some 88, .p (.mov), [.t 2], some (85, true)⟩, ⟨some 89, .call 40, [.t 87, .t 88], some (85, true)⟩, ⟨some 90, .p (.binI .eql), [.t 86, .t 89], some (85, true)⟩, ⟨some 91, .p (.pick), [.t 85, .t 90, .c (.bool false)], none⟩, ⟨some 6, .p (.mov), [.t 91], none⟩]) (.ret))))))))))))
theorem c5 : FnC Try.prog 5 92 a5 [.tmp 6] := ⟨Try.call5, _, _, Try.func5, rfl, by kernel_rfl, by kernel_rfl, rfl⟩
namespace Sc
/-! arguments -/
theorem arInt {n : Nat} {u : AV} (h : ArG P n 3 u) : ∃ m, u = I m ∧ w64 m := by
  have := h.one 3 (k := .i) (by kernel_rfl) (by kernel_rfl)
  simpa only [ShV1] using this
theorem arAxis {n : Nat} {u : AV} (h : ArG P n 39 u) : ∃ r a, u = .agg [I r, I a] := by
  obtain ⟨us, rfl, hh⟩ := h.agg 5 (ks := [.i, .i]) (by kernel_rfl) (by kernel_rfl)
  simp only [ShV, ShV1] at hh
  obtain ⟨_, _, rfl, ⟨r, rfl, _⟩, _, _, rfl, ⟨a, rfl, _⟩, rfl⟩ := hh
  exact ⟨r, a, rfl⟩
theorem arDir {n : Nat} {u : AV} (h : ArG P n 37 u) : ∃ d : Dr, u = eDr d := by
  obtain ⟨us, rfl, hh⟩ := h.agg 5 (ks := [.i, .i]) (by kernel_rfl) (by kernel_rfl)
  simp only [ShV, ShV1] at hh
  obtain ⟨_, _, rfl, ⟨r, rfl, _⟩, _, _, rfl, ⟨a, rfl, _⟩, rfl⟩ := hh
  exact ⟨⟨r, a⟩, rfl⟩
theorem arHead {n : Nat} {u : AV} (h : ArG P n 42 u) : ∃ x : Hd, u = eHd x ∧ x.res.length ≤ maxLen := by
  obtain ⟨us, rfl, hh⟩ := h.agg 6 (ks := [.i, .i, .i, .i, .i, .i, .sl true [.i, .i, .i, .i]]) (by kernel_rfl) (by kernel_rfl)
  simp only [ShV, ShV1] at hh
  obtain ⟨_, _, rfl, ⟨a, rfl, _⟩, _, _, rfl, ⟨b, rfl, _⟩, _, _, rfl, ⟨c, rfl, _⟩, _, _, rfl, ⟨d, rfl, _⟩, _, _, rfl, ⟨e, rfl, _⟩, _, _, rfl, ⟨f, rfl, _⟩, _, _, rfl, ⟨l, rfl, hl, hlen⟩, rfl⟩ := hh
  obtain ⟨gs, e1, e2⟩ := sl_enc (α := Se) eSe (ag := true) (fun p hp => by
    obtain ⟨_, _, rfl, ⟨a, rfl, _⟩, _, _, rfl, ⟨b, rfl, _⟩, _, _, rfl, ⟨c, rfl, _⟩, _, _, rfl, ⟨d, rfl, _⟩, rfl⟩ := hp
    exact ⟨⟨a, b, c, d⟩, rfl⟩) hl
  rw [e1]
  exact ⟨⟨⟨a, b⟩, c, d, e, f, gs⟩, rfl, by simp only; rw [e2]; exact hlen⟩
theorem wF (n : Int) (h : ¬ (0 ≤ n ∧ n ≤ 1000)) : ((0 ≤ n ∧ n ≤ 1000) = False) := by simp only [h]
theorem k_ScanDrives (r a t d : Int) : FOk P 5 [.agg [I r, I a], I t, I d] (.bool true) := by
  by_cases h : axR r a
  · have ha : axE r a = 0 := unl_t _ h
    by_cases ht : 0 ≤ t ∧ t ≤ 1000
    · have hr : raV r a t = .tup [I (rch r a t.toNat), I 0] := if_pos (by simp [raE, firstE, ha, unl, ht])
      have y1 := x_ReachOf r a t
      rw [hr] at y1
      have y2 := x_rReach r a t.toNat h (by omega)
      rw [Int.toNat_of_nonneg ht.1] at y2
      generalize rch r a t.toNat = n at *
      by_cases hd : 0 ≤ d ∧ d ≤ 360
      · have hf : tfV r a d = .tup [I (tkL r a d), I 0] := if_pos (by simp [tfE, firstE, ha, unl, hd])
        have y3 := x_TicksFor r a d
        rw [hf] at y3
        have y4 := x_rTicks r a d (by simp only [eq_iff_iff, iff_true]; exact ⟨h, hd.1, by omega⟩)
        generalize tkL r a d = m at *
        refine c5.fok rfl (Cor.run (addC_good g_rTicks (addC_good g_rReach (addC_good g_Within (addC_good g_CheckAxis (addC_good g_TicksFor (addC_good g_ReachOf (addC_good g_rAxisErr (addC_good g_awake (noC_good _))))))))) (noHx_good _) hm ?_)
        simp +contextual -implicitDefEqProofs (maxSteps := 2000000) only [bg_eq, a5, x_awake, x_rAxisErr, x_CheckAxis, x_Within, y1, y2, y3, y4, ha, ht, hd, not_true_eq_false, ne_eq, ruB, rh_no, Int.reduceLT, Int.reduceLE, Int.reduceAdd, Int.reduceSub, Int.reduceMul, Int.reduceNeg, Int.reduceToNat, Int.reduceEq, Int.reduceNe, Int.reduceTDiv, Int.reduceTMod, implies_true, putL, appN, appX, appC, Eng.Fi, reduceCtorEq, exists_eq_left', exists_eq_left, if_true, if_false, List.replicate, Nat.reduceAdd, Nat.reduceSub, Nat.reduceMul, Nat.reduceLeDiff, Nat.reduceLT, Nat.reduceEqDiff]
      · have hf : tfV r a d = .tup [I 0, I 2] := by
          have : tfE r a d = 2 := by simp [tfE, firstE, ha, unl, hd]
          simp only [tfV, this]; rfl
        have y3 := x_TicksFor r a d
        rw [hf] at y3
        refine c5.fok rfl (Cor.run (addC_good g_rTicks (addC_good g_rReach (addC_good g_Within (addC_good g_CheckAxis (addC_good g_TicksFor (addC_good g_ReachOf (addC_good g_rAxisErr (addC_good g_awake (noC_good _))))))))) (noHx_good _) hm ?_)
        simp +contextual -implicitDefEqProofs (maxSteps := 2000000) only [bg_eq, a5, x_awake, x_rAxisErr, x_CheckAxis, x_Within, y1, y2, y3, ha, ht, hd, not_true_eq_false, not_false_eq_true, ne_eq, ruB, rh_no, Int.reduceLT, Int.reduceLE, Int.reduceAdd, Int.reduceSub, Int.reduceMul, Int.reduceNeg, Int.reduceToNat, Int.reduceEq, Int.reduceNe, Int.reduceTDiv, Int.reduceTMod, implies_true, putL, appN, appX, appC, Eng.Fi, reduceCtorEq, exists_eq_left', exists_eq_left, if_true, if_false, List.replicate, Nat.reduceAdd, Nat.reduceSub, Nat.reduceMul, Nat.reduceLeDiff, Nat.reduceLT, Nat.reduceEqDiff]
    · have hr : raV r a t = .tup [I 0, I 2] := by
        have : raE r a t = 2 := by simp [raE, firstE, ha, unl, ht]
        simp only [raV, this]; rfl
      have y1 := x_ReachOf r a t
      rw [hr] at y1
      by_cases hd : 0 ≤ d ∧ d ≤ 360
      · have hf : tfV r a d = .tup [I (tkL r a d), I 0] := if_pos (by simp [tfE, firstE, ha, unl, hd])
        have y3 := x_TicksFor r a d
        rw [hf] at y3
        have y4 := x_rTicks r a d (by simp only [eq_iff_iff, iff_true]; exact ⟨h, hd.1, by omega⟩)
        generalize tkL r a d = m at *
        refine c5.fok rfl (Cor.run (addC_good g_rTicks (addC_good g_rReach (addC_good g_Within (addC_good g_CheckAxis (addC_good g_TicksFor (addC_good g_ReachOf (addC_good g_rAxisErr (addC_good g_awake (noC_good _))))))))) (noHx_good _) hm ?_)
        simp +contextual -implicitDefEqProofs (maxSteps := 2000000) only [bg_eq, a5, x_awake, x_rAxisErr, x_CheckAxis, x_Within, y1, y3, y4, ha, ht, hd, not_true_eq_false, not_false_eq_true, ne_eq, ruB, rh_no, Int.reduceLT, Int.reduceLE, Int.reduceAdd, Int.reduceSub, Int.reduceMul, Int.reduceNeg, Int.reduceToNat, Int.reduceEq, Int.reduceNe, Int.reduceTDiv, Int.reduceTMod, implies_true, putL, appN, appX, appC, Eng.Fi, reduceCtorEq, exists_eq_left', exists_eq_left, if_true, if_false, List.replicate, Nat.reduceAdd, Nat.reduceSub, Nat.reduceMul, Nat.reduceLeDiff, Nat.reduceLT, Nat.reduceEqDiff]
      · have hf : tfV r a d = .tup [I 0, I 2] := by
          have : tfE r a d = 2 := by simp [tfE, firstE, ha, unl, hd]
          simp only [tfV, this]; rfl
        have y3 := x_TicksFor r a d
        rw [hf] at y3
        refine c5.fok rfl (Cor.run (addC_good g_rTicks (addC_good g_rReach (addC_good g_Within (addC_good g_CheckAxis (addC_good g_TicksFor (addC_good g_ReachOf (addC_good g_rAxisErr (addC_good g_awake (noC_good _))))))))) (noHx_good _) hm ?_)
        simp +contextual -implicitDefEqProofs (maxSteps := 2000000) only [bg_eq, a5, x_awake, x_rAxisErr, x_CheckAxis, x_Within, y1, y3, ha, ht, hd, not_true_eq_false, not_false_eq_true, ne_eq, ruB, rh_no, Int.reduceLT, Int.reduceLE, Int.reduceAdd, Int.reduceSub, Int.reduceMul, Int.reduceNeg, Int.reduceToNat, Int.reduceEq, Int.reduceNe, Int.reduceTDiv, Int.reduceTMod, implies_true, putL, appN, appX, appC, Eng.Fi, reduceCtorEq, exists_eq_left', exists_eq_left, if_true, if_false, List.replicate, Nat.reduceAdd, Nat.reduceSub, Nat.reduceMul, Nat.reduceLeDiff, Nat.reduceLT, Nat.reduceEqDiff]
  · have ha : axE r a = 2 := unl_f _ h
    have hr : raV r a t = .tup [I 0, I 2] := by
      have : raE r a t = 2 := by simp [raE, firstE, ha]
      simp only [raV, this]; rfl
    have y1 := x_ReachOf r a t
    rw [hr] at y1
    have hf : tfV r a d = .tup [I 0, I 2] := by
      have : tfE r a d = 2 := by simp [tfE, firstE, ha]
      simp only [tfV, this]; rfl
    have y3 := x_TicksFor r a d
    rw [hf] at y3
    refine c5.fok rfl (Cor.run (addC_good g_rTicks (addC_good g_rReach (addC_good g_Within (addC_good g_CheckAxis (addC_good g_TicksFor (addC_good g_ReachOf (addC_good g_rAxisErr (addC_good g_awake (noC_good _))))))))) (noHx_good _) hm ?_)
    simp +contextual -implicitDefEqProofs (maxSteps := 2000000) only [bg_eq, a5, x_awake, x_rAxisErr, x_CheckAxis, x_Within, y1, y3, ha, not_true_eq_false, not_false_eq_true, ne_eq, ruB, rh_no, Int.reduceLT, Int.reduceLE, Int.reduceAdd, Int.reduceSub, Int.reduceMul, Int.reduceNeg, Int.reduceToNat, Int.reduceEq, Int.reduceNe, Int.reduceTDiv, Int.reduceTMod, implies_true, putL, appN, appX, appC, Eng.Fi, reduceCtorEq, exists_eq_left', exists_eq_left, if_true, if_false, List.replicate, Nat.reduceAdd, Nat.reduceSub, Nat.reduceMul, Nat.reduceLeDiff, Nat.reduceLT, Nat.reduceEqDiff]
theorem law5 (n0 : Nat) (u0 : AV) (a0 : ArG P n0 39 u0) (n1 : Nat) (u1 : AV) (a1 : ArG P n1 3 u1) (n2 : Nat) (u2 : AV) (a2 : ArG P n2 3 u2) : FOk P 5 [u0, u1, u2] (.bool true) := by
  obtain ⟨r, a, rfl⟩ := arAxis a0
  obtain ⟨t, rfl, _⟩ := arInt a1
  obtain ⟨d, rfl, _⟩ := arInt a2
  exact k_ScanDrives r a t d
end Sc
