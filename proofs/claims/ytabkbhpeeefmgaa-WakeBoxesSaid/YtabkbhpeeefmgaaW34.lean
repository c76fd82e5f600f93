import Derived.Test.YtabkbhpeeefmgaaEngS9
import Derived.Test.YtabkbhpeeefmgaaW33
open Go Go.Proofs Eng
set_option maxRecDepth 100000
set_option linter.unusedSimpArgs false
set_option linter.unusedVariables false
def a5 : AC := .seq (.ops false [] [⟨some 3, .box 50 6 1 true, [.t 0], none⟩, ⟨some 4, .box 50 6 1 true, [.t 1], none⟩, ⟨some 5, .box 54 7 1 true, [.t 2], none⟩, ⟨some 6, .p (.mov), [.c (.bool false)], none⟩]) (.seq (.seq (.ops false [] [⟨some 16, .call 13, [], none⟩, ⟨some 17, .p (.notB), [.t 16], none⟩]) (.cond (.t 17) (.seq (.ops false [] [⟨some 6, .p (.mov), [.c (.bool false)], none⟩]) (.ret)) (.skip))) (.seq (.seq (.ops false [] [⟨some 18, .p (.faddr 6), [.t 5], none⟩, ⟨some 19, .load 1 false, [.t 18], none⟩, ⟨some 20, .call 20, [.t 19, .c (.int .i64 201), .c (.int .i64 1000)], none⟩]) (.cond (.t 20) (.seq (.ops false [] [⟨some 6, .p (.mov), [.c (.bool true)], none⟩]) (.ret)) (.skip))) (.seq (.ops false [] [⟨some 21, .load 6 true, [.t 3], none⟩, ⟨some 22, .call 24, [.t 21], none⟩, ⟨some 7, .p (.mov), [.t 22], none⟩]) (.seq (.ops false [] [⟨some 24, .load 6 true, [.t 3], none⟩, ⟨some 25, .p (.faddr 0), [.t 5], none⟩, ⟨some 26, .load 6 true, [.t 25], none⟩, ⟨some 27, .p (.faddr 6), [.t 5], none⟩, ⟨some 28, .load 1 false, [.t 27], none⟩, ⟨some 29, .call 25, [.t 24, .t 26, .t 28], none⟩, ⟨some 23, .p (.mov), [.t 29], none⟩, ⟨some 30, .p (.ext 0), [.t 23], none⟩, ⟨some 31, .p (.ext 1), [.t 23], none⟩, ⟨some 8, .alloc 50 6 [.agg [.int .i64 0, .int .i64 0, .int .i64 0, .int .i64 0, .int .i64 0, .int .i64 0]], [], none⟩, ⟨none, .store 6 true, [.t 8, .t 30], none⟩, ⟨some 9, .p (.mov), [.t 31], none⟩]) (.seq (.ops false [] [⟨some 33, .load 6 true, [.t 3], none⟩, ⟨some 34, .load 6 true, [.t 4], none⟩, ⟨some 35, .call 26, [.t 33, .t 34], none⟩, ⟨some 32, .p (.mov), [.t 35], none⟩, ⟨some 36, .p (.ext 0), [.t 32], none⟩, ⟨some 37, .p (.ext 1), [.t 32], none⟩, ⟨some 10, .alloc 50 6 [.agg [.int .i64 0, .int .i64 0, .int .i64 0, .int .i64 0, .int .i64 0, .int .i64 0]], [], none⟩, ⟨none, .store 6 true, [.t 10, .t 36], none⟩, ⟨some 11, .p (.mov), [.t 37], none⟩]) (.seq (.ops false [] [⟨some 38, .load 6 true, [.t 3], none⟩, ⟨some 39, .call 27, [.t 38], none⟩, ⟨some 12, .p (.mov), [.t 39], none⟩]) (.seq (.seq (.ops false [] [⟨some 40, .p (.mov), [.t 7], none⟩, ⟨some 41, .p (.mov), [.t 12], none⟩, ⟨some 42, .p (.binI .neq), [.t 40, .t 41], none⟩]) (.cond (.t 42) (.seq (.ops false [] [⟨some 6, .p (.mov), [.c (.bool false)], none⟩]) (.ret)) (.skip))) (.seq (.ops false [] [⟨some 43, .p (.mov), [.t 12], none⟩, ⟨some 13, .p (.mov), [.t 43], none⟩]) (.seq (.seq (.ops false [] [⟨some 44, .p (.mov), [.t 13], none⟩, ⟨some 45, .p (.binI .eql), [.t 44, .c (.int .i64 0)], none⟩]) (.cond (.t 45) (.ops false [] [⟨some 46, .load 6 true, [.t 4], none⟩, ⟨some 47, .call 27, [.t 46], none⟩, ⟨some 13, .p (.mov), [.t 47], none⟩]) (.skip))) (.seq (.seq (.ops false [] [⟨some 48, .p (.mov), [.t 13], none⟩, ⟨some 49, .p (.binI .neq), [.t 48, .c (.int .i64 0)], none⟩, ⟨some 50, .p (.mov), [.t 49], none⟩, ⟨some 51, .p (.mov), [.t 11], some (50, true)⟩, ⟨some 52, .p (.mov), [.t 13], some (50, true)⟩, ⟨some 53, .p (.binI .neq), [.t 51, .t 52], some (50, true)⟩, ⟨some 54, .p (.mov), [.t 53], some (50, true)⟩, ⟨some 55, .load 6 true, [.t 10], some (54, false)⟩, ⟨some 56, .p (.build [.int .i64 0, .int .i64 0, .int .i64 0, .int .i64 0, .int .i64 0, .int .i64 0] []), [], some (54, false)⟩, ⟨some 57, .p (.eqa true [.i, .i, .i, .i, .i, .i]), [.t 55, .t 56], some (54, false)⟩, ⟨some 58, .p (.pick), [.t 54, .c (.bool true), .t 57], some (50, true)⟩, ⟨some 59, .p (.pick), [.t 50, .t 58, .c (.bool false)], none⟩]) (.cond (.t 59) (.seq (.ops false [] [⟨some 6, .p (.mov), [.c (.bool false)], none⟩]) (.ret)) (.skip))) (.seq (.seq (.ops false [] [⟨some 61, .load 6 true, [.t 3], none⟩, ⟨some 62, .load 6 true, [.t 4], none⟩, ⟨some 63, .call 28, [.t 61, .t 62], none⟩, ⟨some 60, .p (.mov), [.t 63], none⟩, ⟨some 64, .p (.ext 0), [.t 60], none⟩, ⟨some 65, .p (.ext 1), [.t 60], none⟩, ⟨some 14, .alloc 50 6 [.agg [.int .i64 0, .int .i64 0, .int .i64 0, .int .i64 0, .int .i64 0, .int .i64 0]], [], none⟩, ⟨none, .store 6 true, [.t 14, .t 64], none⟩, ⟨some 15, .p (.mov), [.t 65], none⟩]) (.seq (.ops false [] [⟨some 66, .p (.mov), [.t 13], none⟩, ⟨some 67, .p (.binI .eql), [.t 66, .c (.int .i64 0)], none⟩, ⟨some 68, .p (.mov), [.t 67], none⟩, ⟨some 69, .p (.mov), [.t 15], some (68, true)⟩, ⟨some 70, .p (.mov), [.t 69], some (68, true)⟩, ⟨some 71, .p (.mov), [.t 11], some (70, true)⟩, ⟨some 72, .p (.binI .neq), [.t 71, .c (.int .i64 0)], some (70, true)⟩, ⟨some 73, .p (.mov), [.t 72], some (70, true)⟩, ⟨some 74, .load 6 true, [.t 10], some (73, false)⟩, ⟨some 75, .load 6 true, [.t 14], some (73, false)⟩, ⟨some 76, .p (.eqa true [.i, .i, .i, .i, .i, .i]), [.t 74, .t 75], some (73, false)⟩, ⟨some 77, .p (.pick), [.t 73, .c (.bool true), .t 76], some (70, true)⟩, ⟨some 78, .p (.pick), [.t 70, .t 77, .c (.bool false)], some (68, true)⟩, ⟨some 79, .p (.mov), [.t 78], some (68, true)⟩, ⟨some 80, .p (.mov), [.t 15], some (79, false)⟩, ⟨some 81, .p (.notB), [.t 80], some (79, false)⟩, ⟨some 82, .p (.mov), [.t 81], some (79, false)⟩, ⟨some 83, .p (.mov), [.t 11], some (82, true)⟩, ⟨some 84, .p (.binI .neq), [.t 83, .c (.int .i64 13)], some (82, true)⟩, ⟨some 85, .p (.mov), [.t 84], some (82, true)⟩, ⟨some 86, .load 6 true, [.t 10], some (85, false)⟩, ⟨some 87, .p (.build [.int .i64 0, .int .i64 0, .int .i64 0, .int .i64 0, .int .i64 0, .int .i64 0] []), [], some (85, false)⟩, ⟨some 88, .p (.eqa true [.i, .i, .i, .i, .i, .i]), [.t 86, .t 87], some (85, false)⟩, ⟨some 89, .p (.pick), [.t 85, .c (.bool true), .t 88], some (82, true)⟩, ⟨some 90, .p (.pick), [.t 82, .t 89, .c (.bool false)], some (79, false)⟩, ⟨some 91, .p (.pick), [.t 79, .c (.bool true), .t 90], some (68, true)⟩, ⟨some 92, .p (.pick), [.t 68, .t 91, .c (.bool false)], none⟩]) (.cond (.t 92) (.seq (.ops false [] [⟨some 6, .p (.mov), [.c (.bool false)], none⟩]) (.ret)) (.skip)))) (.seq (.seq (.ops false [] [⟨some 93, .p (.mov), [.t 12], none⟩, ⟨some 94, .p (.binI .eql), [.t 93, .c (.int .i64 0)], none⟩]) (.cond (.t 94) (.ops false [] [⟨some 95, .p (.faddr 0), [.t 5], none⟩, ⟨some 96, .load 6 true, [.t 95], none⟩, ⟨some 97, .call 29, [.t 96], none⟩, ⟨some 12, .p (.mov), [.t 97], none⟩]) (.skip))) (.seq (.seq (.ops false [] [⟨some 98, .p (.mov), [.t 12], none⟩, ⟨some 99, .p (.binI .eql), [.t 98, .c (.int .i64 0)], none⟩]) (.cond (.t 99) (.ops false [] [⟨some 100, .p (.faddr 6), [.t 5], none⟩, ⟨some 101, .load 1 false, [.t 100], none⟩, ⟨some 102, .call 30, [.t 101], none⟩, ⟨some 12, .p (.mov), [.t 102], none⟩]) (.skip))) (.seq (.seq (.ops false [] [⟨some 103, .p (.mov), [.t 12], none⟩, ⟨some 104, .p (.binI .neq), [.t 103, .c (.int .i64 0)], none⟩]) (.cond (.t 104) (.seq (.ops false [] [⟨some 105, .p (.mov), [.t 9], none⟩, ⟨some 106, .p (.mov), [.t 12], none⟩, ⟨some 107, .p (.binI .eql), [.t 105, .t 106], none⟩, ⟨some 108, .p (.mov), [.t 107], none⟩, ⟨some 109, .load 6 true, [.t 8], some (108, true)⟩, ⟨some 110, .p (.build [.int .i64 0, .int .i64 0, .int .i64 0, .int .i64 0, .int .i64 0, .int .i64 0] []), [], some (108, true)⟩, ⟨some 111, .p (.eqa false [.i, .i, .i, .i, .i, .i]), [.t 109, .t 110], some (108, true)⟩, ⟨some 112, .p (.pick), [.t 108, .t 111, .c (.bool false)], none⟩, ⟨some 6, .p (.mov), [.t 112], none⟩]) (.ret)) (.skip))) (.seq (.ops true [] [⟨some 113, .p (.mov), [.t 9], none⟩, ⟨some 114, .p (.binI .eql), [.t 113, .c (.int .i64 0)], none⟩, ⟨some 115, .p (.mov), [.t 114], none⟩, ⟨some 116, .load 6 true, [.t 8], some (115, true)⟩, ⟨some 117, .load 6 true, [.t 3], some (115, true)⟩, ⟨some 118, .p (.faddr 0), [.t 5], some (115, true)⟩, ⟨some 119, .load 6 true, [.t 118], some (115, true)⟩, ⟨some 120, .p (.faddr 6), [.t 5], some (115, true)⟩, ⟨some 121, .load 1 false, [.t 120], some (115, true)⟩, ⟨some 122, .call 31, [.t 117, .t 119, .t 121], some (115, true)⟩, ⟨some 123, .p (.eqa false [.i, .i, .i, .i, .i, .i]), [.t 116, .t 122], some (115, true)⟩, ⟨some 124, .p (.pick), [.t 115, .t 123, .c (.bool false)], none⟩, ⟨some 6, .p (.mov), [.t 124], none⟩]) (.ret))))))))))))))))
theorem c5 : FnC Try.prog 5 125 a5 [.tmp 6] := ⟨Try.call5, _, _, Try.func5, rfl, by kernel_rfl, by kernel_rfl, rfl⟩
namespace Wa
theorem arBox {n : Nat} {u : AV} (h : ArG P n 50 u) : ∃ b : Bx, u = eBx b := by
  obtain ⟨us, rfl, hh⟩ := h.agg 6 (ks := [.i, .i, .i, .i, .i, .i]) (by kernel_rfl) (by kernel_rfl)
  simp only [ShV, ShV1] at hh
  obtain ⟨_, _, rfl, ⟨a, rfl, _⟩, _, _, rfl, ⟨b', rfl, _⟩, _, _, rfl, ⟨c, rfl, _⟩, _, _, rfl, ⟨d, rfl, _⟩, _, _, rfl, ⟨e, rfl, _⟩, _, _, rfl, ⟨f, rfl, _⟩, rfl⟩ := hh
  exact ⟨⟨a, b', c, d, e, f⟩, rfl⟩
theorem arMoved {n : Nat} {u : AV} (h : ArG P n 54 u) : ∃ (b : Bx) (t : Int), u = .agg [I b.yl, I b.yh, I b.zl, I b.zh, I b.sl, I b.sh, I t] := by
  obtain ⟨us, rfl, hh⟩ := h.agg 6 (ks := [.i, .i, .i, .i, .i, .i, .i]) (by kernel_rfl) (by kernel_rfl)
  simp only [ShV, ShV1] at hh
  obtain ⟨_, _, rfl, ⟨a, rfl, _⟩, _, _, rfl, ⟨b', rfl, _⟩, _, _, rfl, ⟨c, rfl, _⟩, _, _, rfl, ⟨d, rfl, _⟩, _, _, rfl, ⟨e, rfl, _⟩, _, _, rfl, ⟨f, rfl, _⟩, _, _, rfl, ⟨t, rfl, _⟩, rfl⟩ := hh
  exact ⟨⟨a, b', c, d, e, f⟩, t, rfl⟩
theorem fE1 {e : Int} {l : List Int} (h : ¬ e = 0) : firstE (e :: l) = e := by
  unfold firstE; rw [if_neg h]
theorem fE0 {l : List Int} : firstE (0 :: l) = firstE l := rfl
set_option maxHeartbeats 8000000 in
theorem k_WakeBoxes (a b d : Bx) (t : Int) : FOk P 5 [eBx a, eBx b, .agg [I d.yl, I d.yh, I d.zl, I d.zh, I d.sl, I d.sh, I t]] (.bool true) := by
  by_cases hw : 201 ≤ t ∧ t ≤ 1000
  · have hw' := eq_true hw
    refine c5.fok rfl (Cor.run (addC_good g_rAfter (addC_good g_rTicksErr (addC_good g_rDriftErr (addC_good g_rMeet (addC_good g_rBoxErr (addC_good g_MeetOf (addC_good g_BoxAfter (addC_good g_CheckBox (addC_good g_Within (addC_good g_awake (noC_good _))))))))))) (noHx_good _) hm ?_)
    simp +contextual -implicitDefEqProofs (maxSteps := 2000000) only [bg_eq, a5, x_awake, x_Within, x_rTicksErr, hw', zBx, not_true_eq_false, not_false_eq_true, ne_eq, ruB, rh_no, Int.reduceLT, Int.reduceLE, Int.reduceAdd, Int.reduceSub, Int.reduceMul, Int.reduceNeg, Int.reduceToNat, Int.reduceEq, Int.reduceNe, Int.reduceTDiv, Int.reduceTMod, implies_true, putL, appN, appX, appC, Eng.Fi, reduceCtorEq, exists_eq_left', exists_eq_left, if_true, if_false, List.replicate, Nat.reduceAdd, Nat.reduceSub, Nat.reduceMul, Nat.reduceLeDiff, Nat.reduceLT, Nat.reduceEqDiff]
  · have hw' := eq_false hw
    have y1 := x_CheckBox a
    have y2 := x_rBoxErr a
    have y3 := x_rBoxErr b
    have y4 := x_rMeet a b
    have y5 := x_MeetOf a b
    have y6 := x_BoxAfter a d t
    have y7 := x_rDriftErr d
    by_cases h1 : bxE a = 0
    · have h1' := eq_true h1
      by_cases h2 : bxE b = 0
      · have h2' := eq_true h2
        have h9 : mbE a b = 0 := by rw [mbE, h1, h2]; rfl
        by_cases h3 : mnP a b
        · rw [mtV, if_pos h3] at y4
          rw [mbV, if_pos h9, if_pos h3] at y5
          by_cases h4 : dfE d = 0
          · have h4' := eq_true h4
            by_cases h5 : tiR t
            · have h5' : (tkE t = 0) = True := by rw [tkE_nz]; exact eq_true h5
              have h6 : baE a d t = 0 := by rw [baE, h1, fE0, h4, fE0, unl_t 2 h5]; rfl
              have y8 := x_rAfter a d t (by simp only [baE_z h6])
              rw [baV, if_pos h6] at y6
              refine c5.fok rfl (Cor.run (addC_good g_rAfter (addC_good g_rTicksErr (addC_good g_rDriftErr (addC_good g_rMeet (addC_good g_rBoxErr (addC_good g_MeetOf (addC_good g_BoxAfter (addC_good g_CheckBox (addC_good g_Within (addC_good g_awake (noC_good _))))))))))) (noHx_good _) hm ?_)
              simp +contextual -implicitDefEqProofs (maxSteps := 2000000) only [bg_eq, a5, x_awake, x_Within, x_rTicksErr, hw', y1, y2, y3, y4, y5, y6, y7, y8, h1', h4', h5', h2', zBx, not_true_eq_false, not_false_eq_true, ne_eq, ruB, rh_no, Int.reduceLT, Int.reduceLE, Int.reduceAdd, Int.reduceSub, Int.reduceMul, Int.reduceNeg, Int.reduceToNat, Int.reduceEq, Int.reduceNe, Int.reduceTDiv, Int.reduceTMod, implies_true, putL, appN, appX, appC, Eng.Fi, reduceCtorEq, exists_eq_left', exists_eq_left, if_true, if_false, List.replicate, Nat.reduceAdd, Nat.reduceSub, Nat.reduceMul, Nat.reduceLeDiff, Nat.reduceLT, Nat.reduceEqDiff]
            · have h5' : (tkE t = 0) = False := by rw [tkE_nz]; exact eq_false h5
              have h6 : baE a d t = 2 := by rw [baE, h1, fE0, h4, fE0, unl_f 2 h5]; rfl
              have h7 : tkE t = 2 := unl_f 2 h5
              rw [baV, if_neg (by rw [h6]; decide), h6] at y6
              refine c5.fok rfl (Cor.run (addC_good g_rAfter (addC_good g_rTicksErr (addC_good g_rDriftErr (addC_good g_rMeet (addC_good g_rBoxErr (addC_good g_MeetOf (addC_good g_BoxAfter (addC_good g_CheckBox (addC_good g_Within (addC_good g_awake (noC_good _))))))))))) (noHx_good _) hm ?_)
              simp +contextual -implicitDefEqProofs (maxSteps := 2000000) only [bg_eq, a5, x_awake, x_Within, x_rTicksErr, hw', y1, y2, y3, y4, y5, y6, y7, h1', h4', h7, h2', zBx, not_true_eq_false, not_false_eq_true, ne_eq, ruB, rh_no, Int.reduceLT, Int.reduceLE, Int.reduceAdd, Int.reduceSub, Int.reduceMul, Int.reduceNeg, Int.reduceToNat, Int.reduceEq, Int.reduceNe, Int.reduceTDiv, Int.reduceTMod, implies_true, putL, appN, appX, appC, Eng.Fi, reduceCtorEq, exists_eq_left', exists_eq_left, if_true, if_false, List.replicate, Nat.reduceAdd, Nat.reduceSub, Nat.reduceMul, Nat.reduceLeDiff, Nat.reduceLT, Nat.reduceEqDiff]
          · have h4' := eq_false h4
            have h6 : baE a d t = dfE d := by rw [baE, h1, fE0, fE1 h4]
            rw [baV, if_neg (by rw [h6]; exact h4), h6] at y6
            refine c5.fok rfl (Cor.run (addC_good g_rAfter (addC_good g_rTicksErr (addC_good g_rDriftErr (addC_good g_rMeet (addC_good g_rBoxErr (addC_good g_MeetOf (addC_good g_BoxAfter (addC_good g_CheckBox (addC_good g_Within (addC_good g_awake (noC_good _))))))))))) (noHx_good _) hm ?_)
            simp +contextual -implicitDefEqProofs (maxSteps := 2000000) only [bg_eq, a5, x_awake, x_Within, x_rTicksErr, hw', y1, y2, y3, y4, y5, y6, y7, h1', h4', h2', zBx, not_true_eq_false, not_false_eq_true, ne_eq, ruB, rh_no, Int.reduceLT, Int.reduceLE, Int.reduceAdd, Int.reduceSub, Int.reduceMul, Int.reduceNeg, Int.reduceToNat, Int.reduceEq, Int.reduceNe, Int.reduceTDiv, Int.reduceTMod, implies_true, putL, appN, appX, appC, Eng.Fi, reduceCtorEq, exists_eq_left', exists_eq_left, if_true, if_false, List.replicate, Nat.reduceAdd, Nat.reduceSub, Nat.reduceMul, Nat.reduceLeDiff, Nat.reduceLT, Nat.reduceEqDiff]
        · rw [mtV, if_neg h3] at y4
          rw [mbV, if_pos h9, if_neg h3] at y5
          by_cases h4 : dfE d = 0
          · have h4' := eq_true h4
            by_cases h5 : tiR t
            · have h5' : (tkE t = 0) = True := by rw [tkE_nz]; exact eq_true h5
              have h6 : baE a d t = 0 := by rw [baE, h1, fE0, h4, fE0, unl_t 2 h5]; rfl
              have y8 := x_rAfter a d t (by simp only [baE_z h6])
              rw [baV, if_pos h6] at y6
              refine c5.fok rfl (Cor.run (addC_good g_rAfter (addC_good g_rTicksErr (addC_good g_rDriftErr (addC_good g_rMeet (addC_good g_rBoxErr (addC_good g_MeetOf (addC_good g_BoxAfter (addC_good g_CheckBox (addC_good g_Within (addC_good g_awake (noC_good _))))))))))) (noHx_good _) hm ?_)
              simp +contextual -implicitDefEqProofs (maxSteps := 2000000) only [bg_eq, a5, x_awake, x_Within, x_rTicksErr, hw', y1, y2, y3, y4, y5, y6, y7, y8, h1', h4', h5', h2', zBx, not_true_eq_false, not_false_eq_true, ne_eq, ruB, rh_no, Int.reduceLT, Int.reduceLE, Int.reduceAdd, Int.reduceSub, Int.reduceMul, Int.reduceNeg, Int.reduceToNat, Int.reduceEq, Int.reduceNe, Int.reduceTDiv, Int.reduceTMod, implies_true, putL, appN, appX, appC, Eng.Fi, reduceCtorEq, exists_eq_left', exists_eq_left, if_true, if_false, List.replicate, Nat.reduceAdd, Nat.reduceSub, Nat.reduceMul, Nat.reduceLeDiff, Nat.reduceLT, Nat.reduceEqDiff]
            · have h5' : (tkE t = 0) = False := by rw [tkE_nz]; exact eq_false h5
              have h6 : baE a d t = 2 := by rw [baE, h1, fE0, h4, fE0, unl_f 2 h5]; rfl
              have h7 : tkE t = 2 := unl_f 2 h5
              rw [baV, if_neg (by rw [h6]; decide), h6] at y6
              refine c5.fok rfl (Cor.run (addC_good g_rAfter (addC_good g_rTicksErr (addC_good g_rDriftErr (addC_good g_rMeet (addC_good g_rBoxErr (addC_good g_MeetOf (addC_good g_BoxAfter (addC_good g_CheckBox (addC_good g_Within (addC_good g_awake (noC_good _))))))))))) (noHx_good _) hm ?_)
              simp +contextual -implicitDefEqProofs (maxSteps := 2000000) only [bg_eq, a5, x_awake, x_Within, x_rTicksErr, hw', y1, y2, y3, y4, y5, y6, y7, h1', h4', h7, h2', zBx, not_true_eq_false, not_false_eq_true, ne_eq, ruB, rh_no, Int.reduceLT, Int.reduceLE, Int.reduceAdd, Int.reduceSub, Int.reduceMul, Int.reduceNeg, Int.reduceToNat, Int.reduceEq, Int.reduceNe, Int.reduceTDiv, Int.reduceTMod, implies_true, putL, appN, appX, appC, Eng.Fi, reduceCtorEq, exists_eq_left', exists_eq_left, if_true, if_false, List.replicate, Nat.reduceAdd, Nat.reduceSub, Nat.reduceMul, Nat.reduceLeDiff, Nat.reduceLT, Nat.reduceEqDiff]
          · have h4' := eq_false h4
            have h6 : baE a d t = dfE d := by rw [baE, h1, fE0, fE1 h4]
            rw [baV, if_neg (by rw [h6]; exact h4), h6] at y6
            refine c5.fok rfl (Cor.run (addC_good g_rAfter (addC_good g_rTicksErr (addC_good g_rDriftErr (addC_good g_rMeet (addC_good g_rBoxErr (addC_good g_MeetOf (addC_good g_BoxAfter (addC_good g_CheckBox (addC_good g_Within (addC_good g_awake (noC_good _))))))))))) (noHx_good _) hm ?_)
            simp +contextual -implicitDefEqProofs (maxSteps := 2000000) only [bg_eq, a5, x_awake, x_Within, x_rTicksErr, hw', y1, y2, y3, y4, y5, y6, y7, h1', h4', h2', zBx, not_true_eq_false, not_false_eq_true, ne_eq, ruB, rh_no, Int.reduceLT, Int.reduceLE, Int.reduceAdd, Int.reduceSub, Int.reduceMul, Int.reduceNeg, Int.reduceToNat, Int.reduceEq, Int.reduceNe, Int.reduceTDiv, Int.reduceTMod, implies_true, putL, appN, appX, appC, Eng.Fi, reduceCtorEq, exists_eq_left', exists_eq_left, if_true, if_false, List.replicate, Nat.reduceAdd, Nat.reduceSub, Nat.reduceMul, Nat.reduceLeDiff, Nat.reduceLT, Nat.reduceEqDiff]
      · have h2' := eq_false h2
        have h9 : mbE a b = bxE b := by rw [mbE, h1, fE0, fE1 h2]
        rw [mbV, if_neg (by rw [h9]; exact h2), h9] at y5
        have hr : ∃ r q, mtV a b = .tup [eBx r, .bool q] := by
          unfold mtV; split
          · exact ⟨_, _, rfl⟩
          · exact ⟨_, _, rfl⟩
        obtain ⟨r, q, hr⟩ := hr
        rw [hr] at y4
        by_cases h4 : dfE d = 0
        · have h4' := eq_true h4
          by_cases h5 : tiR t
          · have h5' : (tkE t = 0) = True := by rw [tkE_nz]; exact eq_true h5
            have h6 : baE a d t = 0 := by rw [baE, h1, fE0, h4, fE0, unl_t 2 h5]; rfl
            have y8 := x_rAfter a d t (by simp only [baE_z h6])
            rw [baV, if_pos h6] at y6
            refine c5.fok rfl (Cor.run (addC_good g_rAfter (addC_good g_rTicksErr (addC_good g_rDriftErr (addC_good g_rMeet (addC_good g_rBoxErr (addC_good g_MeetOf (addC_good g_BoxAfter (addC_good g_CheckBox (addC_good g_Within (addC_good g_awake (noC_good _))))))))))) (noHx_good _) hm ?_)
            simp +contextual -implicitDefEqProofs (maxSteps := 2000000) only [bg_eq, a5, x_awake, x_Within, x_rTicksErr, hw', y1, y2, y3, y4, y5, y6, y7, y8, h1', h4', h5', h2', zBx, not_true_eq_false, not_false_eq_true, ne_eq, ruB, rh_no, Int.reduceLT, Int.reduceLE, Int.reduceAdd, Int.reduceSub, Int.reduceMul, Int.reduceNeg, Int.reduceToNat, Int.reduceEq, Int.reduceNe, Int.reduceTDiv, Int.reduceTMod, implies_true, putL, appN, appX, appC, Eng.Fi, reduceCtorEq, exists_eq_left', exists_eq_left, if_true, if_false, List.replicate, Nat.reduceAdd, Nat.reduceSub, Nat.reduceMul, Nat.reduceLeDiff, Nat.reduceLT, Nat.reduceEqDiff]
          · have h5' : (tkE t = 0) = False := by rw [tkE_nz]; exact eq_false h5
            have h6 : baE a d t = 2 := by rw [baE, h1, fE0, h4, fE0, unl_f 2 h5]; rfl
            have h7 : tkE t = 2 := unl_f 2 h5
            rw [baV, if_neg (by rw [h6]; decide), h6] at y6
            refine c5.fok rfl (Cor.run (addC_good g_rAfter (addC_good g_rTicksErr (addC_good g_rDriftErr (addC_good g_rMeet (addC_good g_rBoxErr (addC_good g_MeetOf (addC_good g_BoxAfter (addC_good g_CheckBox (addC_good g_Within (addC_good g_awake (noC_good _))))))))))) (noHx_good _) hm ?_)
            simp +contextual -implicitDefEqProofs (maxSteps := 2000000) only [bg_eq, a5, x_awake, x_Within, x_rTicksErr, hw', y1, y2, y3, y4, y5, y6, y7, h1', h4', h7, h2', zBx, not_true_eq_false, not_false_eq_true, ne_eq, ruB, rh_no, Int.reduceLT, Int.reduceLE, Int.reduceAdd, Int.reduceSub, Int.reduceMul, Int.reduceNeg, Int.reduceToNat, Int.reduceEq, Int.reduceNe, Int.reduceTDiv, Int.reduceTMod, implies_true, putL, appN, appX, appC, Eng.Fi, reduceCtorEq, exists_eq_left', exists_eq_left, if_true, if_false, List.replicate, Nat.reduceAdd, Nat.reduceSub, Nat.reduceMul, Nat.reduceLeDiff, Nat.reduceLT, Nat.reduceEqDiff]
        · have h4' := eq_false h4
          have h6 : baE a d t = dfE d := by rw [baE, h1, fE0, fE1 h4]
          rw [baV, if_neg (by rw [h6]; exact h4), h6] at y6
          refine c5.fok rfl (Cor.run (addC_good g_rAfter (addC_good g_rTicksErr (addC_good g_rDriftErr (addC_good g_rMeet (addC_good g_rBoxErr (addC_good g_MeetOf (addC_good g_BoxAfter (addC_good g_CheckBox (addC_good g_Within (addC_good g_awake (noC_good _))))))))))) (noHx_good _) hm ?_)
          simp +contextual -implicitDefEqProofs (maxSteps := 2000000) only [bg_eq, a5, x_awake, x_Within, x_rTicksErr, hw', y1, y2, y3, y4, y5, y6, y7, h1', h4', h2', zBx, not_true_eq_false, not_false_eq_true, ne_eq, ruB, rh_no, Int.reduceLT, Int.reduceLE, Int.reduceAdd, Int.reduceSub, Int.reduceMul, Int.reduceNeg, Int.reduceToNat, Int.reduceEq, Int.reduceNe, Int.reduceTDiv, Int.reduceTMod, implies_true, putL, appN, appX, appC, Eng.Fi, reduceCtorEq, exists_eq_left', exists_eq_left, if_true, if_false, List.replicate, Nat.reduceAdd, Nat.reduceSub, Nat.reduceMul, Nat.reduceLeDiff, Nat.reduceLT, Nat.reduceEqDiff]
    · have h1' := eq_false h1
      have h9 : mbE a b = bxE a := by rw [mbE, fE1 h1]
      have h6 : baE a d t = bxE a := by rw [baE, fE1 h1]
      rw [mbV, if_neg (by rw [h9]; exact h1), h9] at y5
      rw [baV, if_neg (by rw [h6]; exact h1), h6] at y6
      have hr : ∃ r q, mtV a b = .tup [eBx r, .bool q] := by
        unfold mtV; split
        · exact ⟨_, _, rfl⟩
        · exact ⟨_, _, rfl⟩
      obtain ⟨r, q, hr⟩ := hr
      rw [hr] at y4
      refine c5.fok rfl (Cor.run (addC_good g_rAfter (addC_good g_rTicksErr (addC_good g_rDriftErr (addC_good g_rMeet (addC_good g_rBoxErr (addC_good g_MeetOf (addC_good g_BoxAfter (addC_good g_CheckBox (addC_good g_Within (addC_good g_awake (noC_good _))))))))))) (noHx_good _) hm ?_)
      simp +contextual -implicitDefEqProofs (maxSteps := 2000000) only [bg_eq, a5, x_awake, x_Within, x_rTicksErr, hw', y1, y2, y3, y4, y5, y6, y7, h1', zBx, not_true_eq_false, not_false_eq_true, ne_eq, ruB, rh_no, Int.reduceLT, Int.reduceLE, Int.reduceAdd, Int.reduceSub, Int.reduceMul, Int.reduceNeg, Int.reduceToNat, Int.reduceEq, Int.reduceNe, Int.reduceTDiv, Int.reduceTMod, implies_true, putL, appN, appX, appC, Eng.Fi, reduceCtorEq, exists_eq_left', exists_eq_left, if_true, if_false, List.replicate, Nat.reduceAdd, Nat.reduceSub, Nat.reduceMul, Nat.reduceLeDiff, Nat.reduceLT, Nat.reduceEqDiff]
theorem law5 (n0 : Nat) (u0 : AV) (a0 : ArG P n0 50 u0) (n1 : Nat) (u1 : AV) (a1 : ArG P n1 50 u1) (n2 : Nat) (u2 : AV) (a2 : ArG P n2 54 u2) : FOk P 5 [u0, u1, u2] (.bool true) := by
  obtain ⟨a, rfl⟩ := arBox a0
  obtain ⟨b, rfl⟩ := arBox a1
  obtain ⟨d, t, rfl⟩ := arMoved a2
  exact k_WakeBoxes a b d t
end Wa
