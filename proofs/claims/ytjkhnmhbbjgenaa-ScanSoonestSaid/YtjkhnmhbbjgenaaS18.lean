import Derived.Test.YtjkhnmhbbjgenaaEngS9
import Derived.Test.YtjkhnmhbbjgenaaS17
open Go Go.Proofs Eng
set_option maxRecDepth 100000
set_option linter.unusedSimpArgs false
set_option linter.unusedVariables false
def a6 : AC := .seq (.ops false [] [⟨some 2, .box 39 2 1 true, [.t 0], none⟩, ⟨some 4, .p (.mov), [.c (.bool false)], none⟩]) (.seq (.seq (.ops false [] [⟨some 17, .call 15, [], none⟩, ⟨some 18, .p (.notB), [.t 17], none⟩]) (.cond (.t 18) (.seq (.ops false [] [⟨some 4, .p (.mov), [.c (.bool false)], none⟩]) (.ret)) (.skip))) (.seq (.seq (.ops false [] [⟨some 19, .load 2 true, [.t 2], none⟩, ⟨some 20, .call 34, [.t 19], none⟩, ⟨some 21, .p (.binI .neq), [.t 20, .c (.int .i64 0)], none⟩, ⟨some 22, .p (.mov), [.t 21], none⟩, ⟨some 23, .p (.mov), [.t 1], some (22, false)⟩, ⟨some 24, .call 38, [.t 23, .c (.int .i64 0), .c (.int .i64 360)], some (22, false)⟩, ⟨some 25, .p (.notB), [.t 24], some (22, false)⟩, ⟨some 26, .p (.pick), [.t 22, .c (.bool true), .t 25], none⟩]) (.cond (.t 26) (.seq (.ops false [] [⟨some 4, .p (.mov), [.c (.bool true)], none⟩]) (.ret)) (.skip))) (.seq (.ops false [] [⟨some 28, .load 2 true, [.t 2], none⟩, ⟨some 29, .p (.mov), [.t 1], none⟩, ⟨some 30, .call 36, [.t 28, .t 29], none⟩, ⟨some 27, .p (.mov), [.t 30], none⟩, ⟨some 31, .p (.ext 0), [.t 27], none⟩, ⟨some 32, .p (.ext 1), [.t 27], none⟩, ⟨some 5, .p (.mov), [.t 31], none⟩, ⟨some 6, .p (.mov), [.t 32], none⟩]) (.seq (.seq (.ops false [] [⟨some 33, .p (.mov), [.t 6], none⟩, ⟨some 34, .p (.binI .neq), [.t 33, .c (.int .i64 0)], none⟩, ⟨some 35, .p (.mov), [.t 34], none⟩, ⟨some 36, .p (.mov), [.t 5], some (35, false)⟩, ⟨some 37, .call 38, [.t 36, .c (.int .i64 0), .c (.int .i64 1000)], some (35, false)⟩, ⟨some 38, .p (.notB), [.t 37], some (35, false)⟩, ⟨some 39, .p (.pick), [.t 35, .c (.bool true), .t 38], none⟩]) (.cond (.t 39) (.seq (.ops false [] [⟨some 4, .p (.mov), [.c (.bool false)], none⟩]) (.ret)) (.skip))) (.seq (.ops false [] [⟨some 41, .load 2 true, [.t 2], none⟩, ⟨some 42, .p (.mov), [.t 5], none⟩, ⟨some 43, .call 35, [.t 41, .t 42], none⟩, ⟨some 40, .p (.mov), [.t 43], none⟩, ⟨some 44, .p (.ext 0), [.t 40], none⟩, ⟨some 45, .p (.ext 1), [.t 40], none⟩, ⟨some 7, .p (.mov), [.t 44], none⟩, ⟨some 8, .p (.mov), [.t 45], none⟩]) (.seq (.seq (.ops false [] [⟨some 46, .p (.mov), [.t 8], none⟩, ⟨some 47, .p (.binI .neq), [.t 46, .c (.int .i64 0)], none⟩, ⟨some 48, .p (.mov), [.t 47], none⟩, ⟨some 49, .p (.mov), [.t 7], some (48, false)⟩, ⟨some 50, .p (.mov), [.t 1], some (48, false)⟩, ⟨some 51, .p (.binI .lss), [.t 49, .t 50], some (48, false)⟩, ⟨some 52, .p (.pick), [.t 48, .c (.bool true), .t 51], none⟩, ⟨some 53, .p (.mov), [.t 52], none⟩, ⟨some 54, .p (.mov), [.t 7], some (53, false)⟩, ⟨some 55, .p (.mov), [.t 5], some (53, false)⟩, ⟨some 56, .p (.faddr 0), [.t 2], some (53, false)⟩, ⟨some 57, .load 1 false, [.t 56], some (53, false)⟩, ⟨some 58, .p (.binI .mul), [.t 55, .t 57], some (53, false)⟩, ⟨some 59, .p (.binI .gtr), [.t 54, .t 58], some (53, false)⟩, ⟨some 60, .p (.pick), [.t 53, .c (.bool true), .t 59], none⟩, ⟨some 61, .p (.mov), [.t 60], none⟩, ⟨some 62, .p (.mov), [.t 7], some (61, false)⟩, ⟨some 63, .p (.binI .mul), [.c (.int .i64 4), .t 62], some (61, false)⟩, ⟨some 64, .p (.mov), [.t 5], some (61, false)⟩, ⟨some 65, .p (.binI .add), [.t 64, .c (.int .i64 1)], some (61, false)⟩, ⟨some 66, .p (.mov), [.t 5], some (61, false)⟩, ⟨some 67, .p (.binI .add), [.t 66, .c (.int .i64 1)], some (61, false)⟩, ⟨some 68, .p (.binI .mul), [.t 65, .t 67], some (61, false)⟩, ⟨some 69, .p (.faddr 1), [.t 2], some (61, false)⟩, ⟨some 70, .load 1 false, [.t 69], some (61, false)⟩, ⟨some 71, .p (.binI .mul), [.t 68, .t 70], some (61, false)⟩, ⟨some 72, .p (.binI .gtr), [.t 63, .t 71], some (61, false)⟩, ⟨some 73, .p (.pick), [.t 61, .c (.bool true), .t 72], none⟩]) (.cond (.t 73) (.seq (.ops false [] [⟨some 4, .p (.mov), [.c (.bool false)], none⟩]) (.ret)) (.skip))) (.seq (.seq (.ops false [] [⟨some 74, .p (.mov), [.t 5], none⟩, ⟨some 75, .p (.binI .gtr), [.t 74, .c (.int .i64 0)], none⟩]) (.cond (.t 75) (.seq (.ops false [] [⟨some 77, .load 2 true, [.t 2], none⟩, ⟨some 78, .p (.mov), [.t 5], none⟩, ⟨some 79, .p (.binI .sub), [.t 78, .c (.int .i64 1)], none⟩, ⟨some 80, .call 35, [.t 77, .t 79], none⟩, ⟨some 76, .p (.mov), [.t 80], none⟩, ⟨some 81, .p (.ext 0), [.t 76], none⟩, ⟨some 82, .p (.ext 1), [.t 76], none⟩, ⟨some 9, .p (.mov), [.t 81], none⟩, ⟨some 10, .p (.mov), [.t 82], none⟩]) (.seq (.ops false [] [⟨some 83, .p (.mov), [.t 10], none⟩, ⟨some 84, .p (.binI .neq), [.t 83, .c (.int .i64 0)], none⟩, ⟨some 85, .p (.mov), [.t 84], none⟩, ⟨some 86, .p (.mov), [.t 9], some (85, false)⟩, ⟨some 87, .p (.mov), [.t 1], some (85, false)⟩, ⟨some 88, .p (.binI .geq), [.t 86, .t 87], some (85, false)⟩, ⟨some 89, .p (.pick), [.t 85, .c (.bool true), .t 88], none⟩]) (.cond (.t 89) (.seq (.ops false [] [⟨some 4, .p (.mov), [.c (.bool false)], none⟩]) (.ret)) (.skip)))) (.skip))) (.seq (.ops false [] [⟨some 91, .load 2 true, [.t 2], none⟩, ⟨some 92, .p (.mov), [.t 1], none⟩, ⟨some 93, .p (.binI .add), [.t 92, .c (.int .i64 1)], none⟩, ⟨some 94, .p (.mm false), [.c (.int .i64 360), .t 93], none⟩, ⟨some 95, .call 36, [.t 91, .t 94], none⟩, ⟨some 90, .p (.mov), [.t 95], none⟩, ⟨some 96, .p (.ext 0), [.t 90], none⟩, ⟨some 97, .p (.ext 1), [.t 90], none⟩, ⟨some 11, .p (.mov), [.t 96], none⟩, ⟨some 12, .p (.mov), [.t 97], none⟩]) (.seq (.ops false [] [⟨some 99, .p (.faddr 0), [.t 2], none⟩, ⟨some 100, .load 1 false, [.t 99], none⟩, ⟨some 101, .p (.binI .add), [.t 100, .c (.int .i64 1)], none⟩, ⟨some 102, .p (.mm false), [.c (.int .i64 30), .t 101], none⟩, ⟨some 103, .p (.faddr 1), [.t 2], none⟩, ⟨some 104, .load 1 false, [.t 103], none⟩, ⟨some 105, .p (.build [.int .i64 0, .int .i64 0] [(0, 1), (1, 1)]), [.t 102, .t 104], none⟩, ⟨some 106, .p (.mov), [.t 1], none⟩, ⟨some 107, .call 36, [.t 105, .t 106], none⟩, ⟨some 98, .p (.mov), [.t 107], none⟩, ⟨some 108, .p (.ext 0), [.t 98], none⟩, ⟨some 109, .p (.ext 1), [.t 98], none⟩, ⟨some 13, .p (.mov), [.t 108], none⟩, ⟨some 14, .p (.mov), [.t 109], none⟩]) (.seq (.ops false [] [⟨some 111, .p (.faddr 0), [.t 2], none⟩, ⟨some 112, .load 1 false, [.t 111], none⟩, ⟨some 113, .p (.faddr 1), [.t 2], none⟩, ⟨some 114, .load 1 false, [.t 113], none⟩, ⟨some 115, .p (.binI .add), [.t 114, .c (.int .i64 1)], none⟩, ⟨some 116, .p (.mm false), [.c (.int .i64 30), .t 115], none⟩, ⟨some 117, .p (.build [.int .i64 0, .int .i64 0] [(0, 1), (1, 1)]), [.t 112, .t 116], none⟩, ⟨some 118, .p (.mov), [.t 1], none⟩, ⟨some 119, .call 36, [.t 117, .t 118], none⟩, ⟨some 110, .p (.mov), [.t 119], none⟩, ⟨some 120, .p (.ext 0), [.t 110], none⟩, ⟨some 121, .p (.ext 1), [.t 110], none⟩, ⟨some 15, .p (.mov), [.t 120], none⟩, ⟨some 16, .p (.mov), [.t 121], none⟩]) (.seq (.ops false [] [⟨some 122, .p (.mov), [.t 12], none⟩, ⟨some 123, .p (.binI .eql), [.t 122, .c (.int .i64 0)], none⟩, ⟨some 124, .p (.mov), [.t 123], none⟩, ⟨some 125, .p (.mov), [.t 14], some (124, true)⟩, ⟨some 126, .p (.binI .eql), [.t 125, .c (.int .i64 0)], some (124, true)⟩, ⟨some 127, .p (.pick), [.t 124, .t 126, .c (.bool false)], none⟩, ⟨some 128, .p (.mov), [.t 127], none⟩, ⟨some 129, .p (.mov), [.t 16], some (128, true)⟩, ⟨some 130, .p (.binI .eql), [.t 129, .c (.int .i64 0)], some (128, true)⟩, ⟨some 131, .p (.pick), [.t 128, .t 130, .c (.bool false)], none⟩, ⟨some 132, .p (.mov), [.t 131], none⟩, ⟨some 133, .p (.mov), [.t 11], some (132, true)⟩, ⟨some 134, .p (.mov), [.t 5], some (132, true)⟩, ⟨some 135, .p (.binI .geq), [.t 133, .t 134], some (132, true)⟩, ⟨some 136, .p (.pick), [.t 132, .t 135, .c (.bool false)], none⟩, ⟨some 137, .p (.mov), [.t 136], none⟩, ⟨some 138, .p (.mov), [.t 13], some (137, true)⟩, ⟨some 139, .p (.mov), [.t 5], some (137, true)⟩, ⟨some 140, .p (.binI .leq), [.t 138, .t 139], some (137, true)⟩, ⟨some 141, .p (.pick), [.t 137, .t 140, .c (.bool false)], none⟩, ⟨some 142, .p (.mov), [.t 141], none⟩, ⟨some 143, .p (.mov), [.t 15], some (142, true)⟩, ⟨some 144, .p (.mov), [.t 5], some (142, true)⟩, ⟨some 145, .p (.binI .leq), [.t 143, .t 144], some (142, true)⟩, ⟨some 146, .p (.pick), [.t 142, .t 145, .c (.bool false)], none⟩, ⟨some 4, .p (.mov), [.t 146], none⟩]) (.ret))))))))))))
theorem c6 : FnC Try.prog 6 147 a6 [.tmp 4] := ⟨Try.call6, _, _, Try.func6, rfl, by kernel_rfl, by kernel_rfl, rfl⟩
namespace Sc
theorem k_ScanSoonest (r a d : Int) : FOk P 6 [.agg [I r, I a], I d] (.bool true) := by
  by_cases h : axR r a
  · have ha : axE r a = 0 := unl_t _ h
    by_cases hd : 0 ≤ d ∧ d ≤ 360
    · have hd' : 0 ≤ d ∧ d ≤ 1000 := by omega
      have tf : ∀ {r' a' d' : Int}, axR r' a' → 0 ≤ d' ∧ d' ≤ 360 → cf_TicksFor [.agg [I r', I a'], I d'] = some (.tup [I (tkL r' a' d'), I 0]) := fun {r' a' d'} h1 h2 => by
        have hf : tfV r' a' d' = .tup [I (tkL r' a' d'), I 0] := if_pos (by have : axE r' a' = 0 := unl_t _ h1
                                                                            simp [tfE, firstE, this, unl, h2])
        rw [← hf]; exact x_TicksFor r' a' d'
      have rf : ∀ {t : Nat}, t ≤ 1000 → cf_ReachOf [.agg [I r, I a], I t] = some (.tup [I (rch r a t), I 0]) := fun {t} h2 => by
        have hr : raV r a t = .tup [I (rch r a t), I 0] := if_pos (by have : (0 ≤ (t : Int) ∧ (t : Int) ≤ 1000) := by omega
                                                                      simp [raE, firstE, ha, unl, this])
        rw [← hr]; exact x_ReachOf r a t
      obtain ⟨s1, s2, s3⟩ := tkL_spec h hd'
      have h' := h
      unfold axR at h'
      have hr1 : axR (min 30 (r + 1)) a := by unfold axR; omega
      have ha1 : axR r (min 30 (a + 1)) := by unfold axR; omega
      have l1 : tkL r a d ≤ tkL r a (min 360 (d + 1)) := tkL_le h h hd' (by omega) (Int.le_refl _) (Int.le_refl _) (by omega)
      have l2 : tkL (min 30 (r + 1)) a d ≤ tkL r a d := tkL_le hr1 h hd' hd' (by omega) (Int.le_refl _) (Int.le_refl _)
      have l3 : tkL r (min 30 (a + 1)) d ≤ tkL r a d := tkL_le ha1 h hd' hd' (Int.le_refl _) (by omega) (Int.le_refl _)
      have y1 := tf h hd
      have y2 := tf h (d' := min 360 (d + 1)) (by omega)
      have y3 := tf hr1 hd
      have y4 := tf ha1 hd
      generalize tkL r a (min 360 (d + 1)) = t2 at *
      generalize tkL (min 30 (r + 1)) a d = t3 at *
      generalize tkL r (min 30 (a + 1)) d = t4 at *
      generalize tkL r a d = t at *
      have y5 := rf (t := t) (by omega)
      have r1 := rch_rate (r := r) (a := a) t
      have r2 := rch_acc (r := r) (a := a) (by omega) t
      have bd := rch_bd h (t := t) (by omega)
      have g1 : (0 ≤ (t : Int) ∧ (t : Int) ≤ 1000) := by omega
      have g2 : ¬ (rch r a t < d) := by omega
      have m1 : (t : Int) * r ≤ 360 * 30 := Int.mul_le_mul (by omega) (by omega) (by omega) (by omega)
      have m1' : 0 ≤ (t : Int) * r := Int.mul_nonneg (by omega) (by omega)
      have m2 : ((t : Int) + 1) * ((t : Int) + 1) ≤ 361 * 361 := Int.mul_le_mul (by omega) (by omega) (by omega) (by omega)
      have m2' : 0 ≤ ((t : Int) + 1) * ((t : Int) + 1) := Int.mul_nonneg (by omega) (by omega)
      have m3 : ((t : Int) + 1) * ((t : Int) + 1) * a ≤ (361 * 361) * 30 := Int.mul_le_mul m2 (by omega) (by omega) (by omega)
      have m3' : 0 ≤ ((t : Int) + 1) * ((t : Int) + 1) * a := Int.mul_nonneg m2' (by omega)
      have g3 : ¬ (rch r a t > t * r) := by omega
      have g3' : ¬ ((t : Int) * r < rch r a t) := by omega
      have g4 : ¬ (4 * rch r a t > ((t : Int) + 1) * ((t : Int) + 1) * a) := by omega
      have g4' : ¬ (((t : Int) + 1) * ((t : Int) + 1) * a < 4 * rch r a t) := by omega
      have w1 : IntKind.wrap .i64 ((t : Int) * r) = t * r := wrap64 (by omega) (by omega)
      have w2 : IntKind.wrap .i64 (4 * rch r a t) = 4 * rch r a t := wrap64 (by omega) (by omega)
      have w3 : IntKind.wrap .i64 ((t : Int) + 1) = (t : Int) + 1 := wrap64 (by omega) (by omega)
      have w4 : IntKind.wrap .i64 (((t : Int) + 1) * ((t : Int) + 1)) = ((t : Int) + 1) * ((t : Int) + 1) := wrap64 (by omega) (by omega)
      have w5 : IntKind.wrap .i64 (((t : Int) + 1) * ((t : Int) + 1) * a) = ((t : Int) + 1) * ((t : Int) + 1) * a := wrap64 (by omega) (by omega)
      have w6 : IntKind.wrap .i64 (d + 1) = d + 1 := wrap64 (by omega) (by omega)
      have w7 : IntKind.wrap .i64 (r + 1) = r + 1 := wrap64 (by omega) (by omega)
      have w8 : IntKind.wrap .i64 (a + 1) = a + 1 := wrap64 (by omega) (by omega)
      have g5 : ((t : Int) ≤ t2) := by omega
      have g6 : ((t3 : Int) ≤ t) := by omega
      have g7 : ((t4 : Int) ≤ t) := by omega
      by_cases h0 : 0 < t
      · have p0 : (0 : Int) < t := by omega
        have y6 := rf (t := t - 1) (by omega)
        have e6 : ((t - 1 : Nat) : Int) = (t : Int) - 1 := by omega
        rw [e6] at y6
        have w9 : IntKind.wrap .i64 ((t : Int) - 1) = (t : Int) - 1 := wrap64 (by omega) (by omega)
        have g8 := s2 (t - 1) (by omega)
        have g8' : ¬ (d ≤ rch r a (t - 1)) := by omega
        refine c6.fok rfl (Cor.run (addC_good g_rTicks (addC_good g_rReach (addC_good g_Within (addC_good g_CheckAxis (addC_good g_TicksFor (addC_good g_ReachOf (addC_good g_rAxisErr (addC_good g_awake (noC_good _))))))))) (noHx_good _) hm ?_)
        simp +contextual -implicitDefEqProofs (maxSteps := 2000000) only [bg_eq, a6, x_awake, x_rAxisErr, x_CheckAxis, x_Within, ha, hd, y1, y2, y3, y4, y5, y6, g1, g2, g3, g3', g4, g4', g5, g6, g7, g8', p0, w1, w2, w3, w4, w5, w6, w7, w8, w9, not_true_eq_false, not_false_eq_true, ne_eq, ruB, rh_no, Int.reduceLT, Int.reduceLE, Int.reduceAdd, Int.reduceSub, Int.reduceMul, Int.reduceNeg, Int.reduceToNat, Int.reduceEq, Int.reduceNe, Int.reduceTDiv, Int.reduceTMod, implies_true, putL, appN, appX, appC, Eng.Fi, reduceCtorEq, exists_eq_left', exists_eq_left, if_true, if_false, List.replicate, Nat.reduceAdd, Nat.reduceSub, Nat.reduceMul, Nat.reduceLeDiff, Nat.reduceLT, Nat.reduceEqDiff]
      · have p0 : ¬ ((0 : Int) < t) := by omega
        refine c6.fok rfl (Cor.run (addC_good g_rTicks (addC_good g_rReach (addC_good g_Within (addC_good g_CheckAxis (addC_good g_TicksFor (addC_good g_ReachOf (addC_good g_rAxisErr (addC_good g_awake (noC_good _))))))))) (noHx_good _) hm ?_)
        simp +contextual -implicitDefEqProofs (maxSteps := 2000000) only [bg_eq, a6, x_awake, x_rAxisErr, x_CheckAxis, x_Within, ha, hd, y1, y2, y3, y4, y5, g1, g2, g3, g3', g4, g4', g5, g6, g7, p0, w1, w2, w3, w4, w5, w6, w7, w8, not_true_eq_false, not_false_eq_true, ne_eq, ruB, rh_no, Int.reduceLT, Int.reduceLE, Int.reduceAdd, Int.reduceSub, Int.reduceMul, Int.reduceNeg, Int.reduceToNat, Int.reduceEq, Int.reduceNe, Int.reduceTDiv, Int.reduceTMod, implies_true, putL, appN, appX, appC, Eng.Fi, reduceCtorEq, exists_eq_left', exists_eq_left, if_true, if_false, List.replicate, Nat.reduceAdd, Nat.reduceSub, Nat.reduceMul, Nat.reduceLeDiff, Nat.reduceLT, Nat.reduceEqDiff]
    · refine c6.fok rfl (Cor.run (addC_good g_rTicks (addC_good g_rReach (addC_good g_Within (addC_good g_CheckAxis (addC_good g_TicksFor (addC_good g_ReachOf (addC_good g_rAxisErr (addC_good g_awake (noC_good _))))))))) (noHx_good _) hm ?_)
      simp +contextual -implicitDefEqProofs (maxSteps := 2000000) only [bg_eq, a6, x_awake, x_rAxisErr, x_CheckAxis, x_Within, ha, hd, not_true_eq_false, not_false_eq_true, ne_eq, ruB, rh_no, Int.reduceLT, Int.reduceLE, Int.reduceAdd, Int.reduceSub, Int.reduceMul, Int.reduceNeg, Int.reduceToNat, Int.reduceEq, Int.reduceNe, Int.reduceTDiv, Int.reduceTMod, implies_true, putL, appN, appX, appC, Eng.Fi, reduceCtorEq, exists_eq_left', exists_eq_left, if_true, if_false, List.replicate, Nat.reduceAdd, Nat.reduceSub, Nat.reduceMul, Nat.reduceLeDiff, Nat.reduceLT, Nat.reduceEqDiff]
  · have ha : axE r a = 2 := unl_f _ h
    refine c6.fok rfl (Cor.run (addC_good g_rTicks (addC_good g_rReach (addC_good g_Within (addC_good g_CheckAxis (addC_good g_TicksFor (addC_good g_ReachOf (addC_good g_rAxisErr (addC_good g_awake (noC_good _))))))))) (noHx_good _) hm ?_)
    simp +contextual -implicitDefEqProofs (maxSteps := 2000000) only [bg_eq, a6, x_awake, x_rAxisErr, x_CheckAxis, x_Within, ha, not_true_eq_false, not_false_eq_true, ne_eq, ruB, rh_no, Int.reduceLT, Int.reduceLE, Int.reduceAdd, Int.reduceSub, Int.reduceMul, Int.reduceNeg, Int.reduceToNat, Int.reduceEq, Int.reduceNe, Int.reduceTDiv, Int.reduceTMod, implies_true, putL, appN, appX, appC, Eng.Fi, reduceCtorEq, exists_eq_left', exists_eq_left, if_true, if_false, List.replicate, Nat.reduceAdd, Nat.reduceSub, Nat.reduceMul, Nat.reduceLeDiff, Nat.reduceLT, Nat.reduceEqDiff]
theorem law6 (n0 : Nat) (u0 : AV) (a0 : ArG P n0 39 u0) (n1 : Nat) (u1 : AV) (a1 : ArG P n1 3 u1) : FOk P 6 [u0, u1] (.bool true) := by
  obtain ⟨r, a, rfl⟩ := arAxis a0
  obtain ⟨d, rfl, _⟩ := arInt a1
  exact k_ScanSoonest r a d
end Sc
