import Derived.Test.YtjkhnmhbbjgenaaEngS9
import Derived.Test.YtjkhnmhbbjgenaaS31
open Go Go.Proofs Eng
set_option maxRecDepth 100000
set_option linter.unusedSimpArgs false
set_option linter.unusedVariables false
def a4 : AC := .seq (.ops false [] [⟨some 2, .box 42 7 1 true, [.t 0], none⟩, ⟨some 4, .p (.mov), [.c (.bool false)], none⟩]) (.seq (.seq (.ops false [] [⟨some 18, .call 15, [], none⟩, ⟨some 19, .p (.notB), [.t 18], none⟩]) (.cond (.t 19) (.seq (.ops false [] [⟨some 4, .p (.mov), [.c (.bool false)], none⟩]) (.ret)) (.skip))) (.seq (.seq (.ops false [] [⟨some 20, .load 7 true, [.t 2], none⟩, ⟨some 21, .call 23, [.t 20], none⟩, ⟨some 22, .p (.notB), [.t 21], none⟩, ⟨some 23, .p (.mov), [.t 22], none⟩, ⟨some 24, .p (.mov), [.t 1], some (23, false)⟩, ⟨some 25, .call 16, [.t 24], some (23, false)⟩, ⟨some 26, .p (.notB), [.t 25], some (23, false)⟩, ⟨some 27, .p (.pick), [.t 23, .c (.bool true), .t 26], none⟩]) (.cond (.t 27) (.seq (.ops false [] [⟨some 4, .p (.mov), [.c (.bool true)], none⟩]) (.ret)) (.skip))) (.seq (.ops false [] [⟨some 29, .load 7 true, [.t 2], none⟩, ⟨some 30, .call 25, [.t 29], none⟩, ⟨some 31, .p (.mov), [.t 1], none⟩, ⟨some 32, .call 18, [.t 31], none⟩, ⟨some 33, .call 24, [.t 30, .t 32], none⟩, ⟨some 28, .p (.mov), [.t 33], none⟩, ⟨some 34, .p (.ext 0), [.t 28], none⟩, ⟨some 35, .p (.ext 1), [.t 28], none⟩, ⟨some 5, .p (.mov), [.t 34], none⟩, ⟨some 6, .p (.mov), [.t 35], none⟩]) (.seq (.ops false [] [⟨some 37, .load 7 true, [.t 2], none⟩, ⟨some 38, .call 25, [.t 37], none⟩, ⟨some 39, .p (.mov), [.t 1], none⟩, ⟨some 40, .call 18, [.t 39], none⟩, ⟨some 41, .call 26, [.t 38, .t 40], none⟩, ⟨some 36, .p (.mov), [.t 41], none⟩, ⟨some 42, .p (.ext 0), [.t 36], none⟩, ⟨some 43, .p (.ext 1), [.t 36], none⟩, ⟨some 7, .p (.mov), [.t 42], none⟩, ⟨some 8, .p (.mov), [.t 43], none⟩]) (.seq (.ops false [] [⟨some 45, .load 7 true, [.t 2], none⟩, ⟨some 46, .call 25, [.t 45], none⟩, ⟨some 47, .p (.mov), [.t 1], none⟩, ⟨some 48, .call 18, [.t 47], none⟩, ⟨some 49, .call 27, [.t 46, .t 48], none⟩, ⟨some 44, .p (.mov), [.t 49], none⟩, ⟨some 50, .p (.ext 0), [.t 44], none⟩, ⟨some 51, .p (.ext 1), [.t 44], none⟩, ⟨some 52, .p (.ext 2), [.t 44], none⟩, ⟨some 10, .alloc 37 2 [.agg [.int .i64 0, .int .i64 0]], [], none⟩, ⟨some 9, .p (.mov), [.t 50], none⟩, ⟨none, .store 2 true, [.t 10, .t 51], none⟩, ⟨some 11, .p (.mov), [.t 52], none⟩]) (.seq (.ops false [] [⟨some 53, .load 7 true, [.t 2], none⟩, ⟨some 54, .call 28, [.t 53], none⟩, ⟨some 12, .p (.mov), [.t 54], none⟩]) (.seq (.seq (.ops false [] [⟨some 55, .p (.mov), [.t 12], none⟩, ⟨some 56, .p (.binI .eql), [.t 55, .c (.int .i64 0)], none⟩]) (.cond (.t 56) (.ops false [] [⟨some 57, .p (.mov), [.t 1], none⟩, ⟨some 58, .call 29, [.t 57], none⟩, ⟨some 12, .p (.mov), [.t 58], none⟩]) (.skip))) (.seq (.seq (.ops false [] [⟨some 59, .p (.mov), [.t 12], none⟩, ⟨some 60, .p (.binI .neq), [.t 59, .c (.int .i64 0)], none⟩]) (.cond (.t 60) (.seq (.ops false [] [⟨some 61, .p (.mov), [.t 6], none⟩, ⟨some 62, .p (.mov), [.t 12], none⟩, ⟨some 63, .p (.binI .eql), [.t 61, .t 62], none⟩, ⟨some 64, .p (.mov), [.t 63], none⟩, ⟨some 65, .p (.mov), [.t 8], some (64, true)⟩, ⟨some 66, .p (.mov), [.t 12], some (64, true)⟩, ⟨some 67, .p (.binI .eql), [.t 65, .t 66], some (64, true)⟩, ⟨some 68, .p (.pick), [.t 64, .t 67, .c (.bool false)], none⟩, ⟨some 69, .p (.mov), [.t 68], none⟩, ⟨some 70, .p (.mov), [.t 11], some (69, true)⟩, ⟨some 71, .p (.mov), [.t 12], some (69, true)⟩, ⟨some 72, .p (.binI .eql), [.t 70, .t 71], some (69, true)⟩, ⟨some 73, .p (.pick), [.t 69, .t 72, .c (.bool false)], none⟩, ⟨some 74, .p (.mov), [.t 73], none⟩, ⟨some 75, .p (.mov), [.t 5], some (74, true)⟩, ⟨some 76, .p (.lenS), [.t 75], some (74, true)⟩, ⟨some 77, .p (.binI .eql), [.t 76, .c (.int .i64 0)], some (74, true)⟩, ⟨some 78, .p (.pick), [.t 74, .t 77, .c (.bool false)], none⟩, ⟨some 79, .p (.mov), [.t 78], none⟩, ⟨some 80, .p (.mov), [.t 7], some (79, true)⟩, ⟨some 81, .p (.binI .eql), [.t 80, .c (.int .i64 0)], some (79, true)⟩, ⟨some 82, .p (.pick), [.t 79, .t 81, .c (.bool false)], none⟩, ⟨some 83, .p (.mov), [.t 82], none⟩, ⟨some 84, .p (.mov), [.t 9], some (83, true)⟩, ⟨some 85, .p (.binI .eql), [.t 84, .c (.int .i64 0)], some (83, true)⟩, ⟨some 86, .p (.pick), [.t 83, .t 85, .c (.bool false)], none⟩, ⟨some 87, .p (.mov), [.t 86], none⟩, ⟨some 88, .load 2 true, [.t 10], some (87, true)⟩, ⟨some 89, .p (.build [.int .i64 0, .int .i64 0] []), [], some (87, true)⟩, ⟨some 90, .p (.eqa false [.i, .i]), [.t 88, .t 89], some (87, true)⟩, ⟨some 91, .p (.pick), [.t 87, .t 90, .c (.bool false)], none⟩, ⟨some 4, .p (.mov), [.t 91], none⟩]) (.ret)) (.skip))) (.seq (.ops false [] [⟨some 92, .p (.mov), [.t 1], none⟩, ⟨some 93, .call 22, [.t 92], none⟩, ⟨some 13, .p (.mov), [.t 93], none⟩]) (.seq (.ops false [] [⟨some 94, .load 7 true, [.t 2], none⟩, ⟨some 95, .p (.mov), [.t 13], none⟩, ⟨some 96, .call 30, [.t 94, .t 95], none⟩, ⟨some 14, .p (.mov), [.t 96], none⟩]) (.seq (.ops false [] [⟨some 98, .load 7 true, [.t 2], none⟩, ⟨some 99, .p (.mov), [.t 13], none⟩, ⟨some 100, .call 31, [.t 98, .t 99], none⟩, ⟨some 97, .p (.mov), [.t 100], none⟩, ⟨some 101, .p (.ext 0), [.t 97], none⟩, ⟨some 102, .p (.ext 1), [.t 97], none⟩, ⟨some 103, .p (.ext 2), [.t 97], none⟩, ⟨some 16, .alloc 37 2 [.agg [.int .i64 0, .int .i64 0]], [], none⟩, ⟨some 15, .p (.mov), [.t 101], none⟩, ⟨none, .store 2 true, [.t 16, .t 102], none⟩, ⟨some 17, .p (.mov), [.t 103], none⟩]) (.seq (.seq (.ops false [] [⟨some 104, .p (.mov), [.t 17], none⟩, ⟨some 105, .p (.mov), [.t 104], none⟩, ⟨some 106, .p (.mov), [.t 11], some (105, true)⟩, ⟨some 107, .p (.binI .neq), [.t 106, .c (.int .i64 0)], some (105, true)⟩, ⟨some 108, .p (.mov), [.t 107], some (105, true)⟩, ⟨some 109, .p (.mov), [.t 9], some (108, false)⟩, ⟨some 110, .p (.mov), [.t 15], some (108, false)⟩, ⟨some 111, .p (.binI .neq), [.t 109, .t 110], some (108, false)⟩, ⟨some 112, .p (.pick), [.t 108, .c (.bool true), .t 111], some (105, true)⟩, ⟨some 113, .p (.mov), [.t 112], some (105, true)⟩, ⟨some 114, .load 2 true, [.t 10], some (113, false)⟩, ⟨some 115, .load 2 true, [.t 16], some (113, false)⟩, ⟨some 116, .p (.eqa true [.i, .i]), [.t 114, .t 115], some (113, false)⟩, ⟨some 117, .p (.pick), [.t 113, .c (.bool true), .t 116], some (105, true)⟩, ⟨some 118, .p (.pick), [.t 105, .t 117, .c (.bool false)], none⟩, ⟨some 119, .p (.mov), [.t 118], none⟩, ⟨some 120, .p (.mov), [.t 17], some (119, false)⟩, ⟨some 121, .p (.notB), [.t 120], some (119, false)⟩, ⟨some 122, .p (.mov), [.t 121], some (119, false)⟩, ⟨some 123, .p (.mov), [.t 11], some (122, true)⟩, ⟨some 124, .p (.binI .neq), [.t 123, .c (.int .i64 12)], some (122, true)⟩, ⟨some 125, .p (.mov), [.t 124], some (122, true)⟩, ⟨some 126, .p (.mov), [.t 9], some (125, false)⟩, ⟨some 127, .p (.binI .neq), [.t 126, .c (.int .i64 0)], some (125, false)⟩, ⟨some 128, .p (.pick), [.t 125, .c (.bool true), .t 127], some (122, true)⟩, ⟨some 129, .p (.mov), [.t 128], some (122, true)⟩, ⟨some 130, .load 2 true, [.t 10], some (129, false)⟩, ⟨some 131, .p (.build [.int .i64 0, .int .i64 0] []), [], some (129, false)⟩, ⟨some 132, .p (.eqa true [.i, .i]), [.t 130, .t 131], some (129, false)⟩, ⟨some 133, .p (.pick), [.t 129, .c (.bool true), .t 132], some (122, true)⟩, ⟨some 134, .p (.pick), [.t 122, .t 133, .c (.bool false)], some (119, false)⟩, ⟨some 135, .p (.pick), [.t 119, .c (.bool true), .t 134], none⟩]) (.cond (.t 135) (.seq (.ops false [] [⟨some 4, .p (.mov), [.c (.bool false)], none⟩]) (.ret)) (.skip))) (.seq (.ops false [] [⟨some 136, .p (.mov), [.t 6], none⟩, ⟨some 137, .p (.binI .eql), [.t 136, .c (.int .i64 0)], none⟩, ⟨some 138, .p (.mov), [.t 137], none⟩, ⟨some 139, .p (.mov), [.t 5], some (138, true)⟩, ⟨some 140, .p (.mov), [.t 14], some (138, true)⟩, ⟨some 141, .call 32, [.t 139, .t 140], some (138, true)⟩, ⟨some 142, .p (.pick), [.t 138, .t 141, .c (.bool false)], none⟩, ⟨some 143, .p (.mov), [.t 142], none⟩, ⟨some 144, .p (.mov), [.t 8], some (143, true)⟩, ⟨some 145, .p (.binI .eql), [.t 144, .c (.int .i64 0)], some (143, true)⟩, ⟨some 146, .p (.pick), [.t 143, .t 145, .c (.bool false)], none⟩, ⟨some 147, .p (.mov), [.t 146], none⟩, ⟨some 148, .p (.mov), [.t 7], some (147, true)⟩, ⟨some 149, .p (.mov), [.t 14], some (147, true)⟩, ⟨some 150, .call 33, [.t 149], some (147, true)⟩, ⟨some 151, .p (.binI .eql), [.t 148, .t 150], some (147, true)⟩, ⟨some 152, .p (.pick), [.t 147, .t 151, .c (.bool false)], none⟩, ⟨some 4, .p (.mov), [.t 152], none⟩]) (.ret))))))))))))))
theorem c4 : FnC Try.prog 4 153 a4 [.tmp 4] := ⟨Try.call4, _, _, Try.func4, rfl, by kernel_rfl, by kernel_rfl, rfl⟩
namespace Sc
theorem vsE_val (h : Hd) (l : Sps) : vsE h l = if hdE h = 0 then (ckC l).2 else hdE h := by
  unfold vsE
  simp only [firstE]
  by_cases h1 : hdE h = 0
  · rw [if_pos h1, if_pos h1]
    by_cases h2 : (ckC l).2 = 0
    · rw [if_pos h2, h2]
    · rw [if_neg h2]
  · rw [if_neg h1, if_neg h1]
/-- what is right of a right program -/
theorem runs_ok {h : Hd} {l : Sps} (h0 : vsE h l = 0) : hdR h ∧ ssR (stopsAll 2 l) ∧ fsB h (stopsAll 2 l) := by
  obtain ⟨hc, hh⟩ := vsE_home h0
  have hz := hdE_zero hh
  obtain ⟨hk, h60⟩ := ckC_ok hc
  have hs : ssR (stopsAll 2 l) := ⟨h60, stops_ok hk⟩
  exact ⟨⟨⟨hz.1.1.2.1, hz.1.1.2.2⟩, hz.1.1.1⟩, hs, ⟨⟨⟨by have := hz.1.2; omega, fun s hs => (hz.2.1 s hs).1⟩, hz.1.1.1⟩, hs⟩⟩
theorem vsL_last {h : Hd} {l : Sps} (h0 : vsE h l = 0) : ∃ x, (vsL h l).getLast? = some x ∧ durL h l = x.to := by
  have hp := ckC_pos (vsE_home h0).1
  have hlen : (vsL h l).length = (stopsAll 2 l).length := visL_len h _ _ _
  unfold durL
  cases hx : (vsL h l).getLast? with
  | none => rw [List.getLast?_eq_none_iff] at hx; rw [hx] at hlen; simp at hlen; omega
  | some x => exact ⟨x, rfl, rfl⟩
theorem k_ScanRuns (h : Hd) (l : Sps) : FOk P 4 [eHd h, .vs (eSps l)] (.bool true) := by
  by_cases h8 : (h.res.length : Int) ≤ 8
  · have yf := x_Few l
    by_cases hf : fewB l = true
    · rw [hf] at yf
      have hl : h.res.length ≤ 1000 := by omega
      have hl' : h.res.length ≤ 1099511627776 := by omega
      have yh := x_CopyHead h (by simp only [hl])
      have yc := x_Copy 5 l (few_wgh hf)
      have y1 := x_VisitsOf h l (by simp only [hl'])
      have y2 := x_DurationOf h l (by simp only [hl'])
      have y3 := x_FirstLit h l (by simp only [hl'])
      have y4 := x_rHeadErr h (by simp only [hl])
      have y5 := x_rStepsErr l
      have hv := vsE_val h l
      by_cases h0 : vsE h l = 0
      · obtain ⟨r1, r2, r3⟩ := runs_ok h0
        obtain ⟨c1, c2⟩ := vsE_home h0
        obtain ⟨x, hx1, hx2⟩ := vsL_last h0
        obtain ⟨hk, h60⟩ := ckC_ok c1
        rw [vsV, if_pos h0] at y1
        rw [duV, if_pos h0, hx2] at y2
        rw [flV, if_pos h0, vsL, flG_flS] at y3
        have y6 := x_rStops 2 l hk (by omega)
        have hlen : (vsL h l).length = (stopsAll 2 l).length := visL_len h _ _ _
        have y7 := x_rVisits h (stopsAll 2 l) (by simp only [eq_iff_iff, iff_true]; exact ⟨r1, r2⟩)
        have y8 := x_rFirstLit h (stopsAll 2 l) (by simp only [eq_iff_iff, iff_true]; exact r3)
        have y9 := x_rSameVisits (vsL h l) (vsL h l) (by simp only [eq_iff_iff, iff_true]; omega)
        rw [decide_eq_true rfl] at y9
        have y10 := x_rDuration (vsL h l) x hx1 (by omega)
        unfold vsL at y1 y9 y10
        clear hx1 hx2 hlen r1 r2 r3 h60 hk
        generalize visL h 0 h.home (stopsAll 2 l) = vs at *
        generalize flS h 0 h.home (stopsAll 2 l) = fl at *
        generalize stopsAll 2 l = ss at *
        rw [c1] at y5
        rw [c2] at y4
        cases fl with
        | some q =>
          obtain ⟨n, d⟩ := q
          simp only at y3
          simp only [flW] at y8
          refine c4.fok (by simp only [free_Hs, subs, sub1, free_Se, free_Sps]) (Cor.run (addC_good (g_Copy 5) (addC_good (g_rStops 2) (addC_good g_rDuration (addC_good g_rSameVisits (addC_good g_rFirstLit (addC_good g_rVisits (addC_good g_rStepsErr (addC_good g_rHeadErr (addC_good g_FirstLit (addC_good g_DurationOf (addC_good g_VisitsOf (addC_good g_CopyHead (addC_good g_Few (addC_good g_few (addC_good g_awake (noC_good _)))))))))))))))) (noHx_good _) hm ?_)
          simp +contextual -implicitDefEqProofs (maxSteps := 2000000) only [bg_eq, a4, nz0, x_awake, x_few, yh, yf, yc, y1, y2, y3, y4, y5, y6, y7, y8, y9, y10, h8, free_St, free_Vi, not_true_eq_false, not_false_eq_true, ne_eq, ruB, rh_no, Int.reduceLT, Int.reduceLE, Int.reduceAdd, Int.reduceSub, Int.reduceMul, Int.reduceNeg, Int.reduceToNat, Int.reduceEq, Int.reduceNe, Int.reduceTDiv, Int.reduceTMod, implies_true, putL, appN, appX, appC, Eng.Fi, reduceCtorEq, exists_eq_left', exists_eq_left, if_true, if_false, List.replicate, Nat.reduceAdd, Nat.reduceSub, Nat.reduceMul, Nat.reduceLeDiff, Nat.reduceLT, Nat.reduceEqDiff]
        | none =>
          simp only at y3
          simp only [flW] at y8
          refine c4.fok (by simp only [free_Hs, subs, sub1, free_Se, free_Sps]) (Cor.run (addC_good (g_Copy 5) (addC_good (g_rStops 2) (addC_good g_rDuration (addC_good g_rSameVisits (addC_good g_rFirstLit (addC_good g_rVisits (addC_good g_rStepsErr (addC_good g_rHeadErr (addC_good g_FirstLit (addC_good g_DurationOf (addC_good g_VisitsOf (addC_good g_CopyHead (addC_good g_Few (addC_good g_few (addC_good g_awake (noC_good _)))))))))))))))) (noHx_good _) hm ?_)
          simp +contextual -implicitDefEqProofs (maxSteps := 2000000) only [bg_eq, a4, nz0, x_awake, x_few, yh, yf, yc, y1, y2, y3, y4, y5, y6, y7, y8, y9, y10, h8, free_St, free_Vi, not_true_eq_false, not_false_eq_true, ne_eq, ruB, rh_no, Int.reduceLT, Int.reduceLE, Int.reduceAdd, Int.reduceSub, Int.reduceMul, Int.reduceNeg, Int.reduceToNat, Int.reduceEq, Int.reduceNe, Int.reduceTDiv, Int.reduceTMod, implies_true, putL, appN, appX, appC, Eng.Fi, reduceCtorEq, exists_eq_left', exists_eq_left, if_true, if_false, List.replicate, Nat.reduceAdd, Nat.reduceSub, Nat.reduceMul, Nat.reduceLeDiff, Nat.reduceLT, Nat.reduceEqDiff]
      · rw [vsV, if_neg h0] at y1
        rw [duV, if_neg h0] at y2
        rw [flV, if_neg h0] at y3
        by_cases c2 : hdE h = 0
        · rw [if_pos c2] at hv
          rw [hv] at y1 y2 y3 h0
          refine c4.fok (by simp only [free_Hs, subs, sub1, free_Se, free_Sps]) (Cor.run (addC_good (g_Copy 5) (addC_good (g_rStops 2) (addC_good g_rDuration (addC_good g_rSameVisits (addC_good g_rFirstLit (addC_good g_rVisits (addC_good g_rStepsErr (addC_good g_rHeadErr (addC_good g_FirstLit (addC_good g_DurationOf (addC_good g_VisitsOf (addC_good g_CopyHead (addC_good g_Few (addC_good g_few (addC_good g_awake (noC_good _)))))))))))))))) (noHx_good _) hm ?_)
          simp +contextual -implicitDefEqProofs (maxSteps := 2000000) only [bg_eq, a4, nz0, x_awake, x_few, yh, yf, yc, y1, y2, y3, y4, y5, h8, c2, h0, not_true_eq_false, not_false_eq_true, ne_eq, ruB, rh_no, Int.reduceLT, Int.reduceLE, Int.reduceAdd, Int.reduceSub, Int.reduceMul, Int.reduceNeg, Int.reduceToNat, Int.reduceEq, Int.reduceNe, Int.reduceTDiv, Int.reduceTMod, implies_true, putL, appN, appX, appC, Eng.Fi, reduceCtorEq, exists_eq_left', exists_eq_left, if_true, if_false, List.replicate, Nat.reduceAdd, Nat.reduceSub, Nat.reduceMul, Nat.reduceLeDiff, Nat.reduceLT, Nat.reduceEqDiff]
        · rw [if_neg c2] at hv
          rw [hv] at y1 y2 y3
          refine c4.fok (by simp only [free_Hs, subs, sub1, free_Se, free_Sps]) (Cor.run (addC_good (g_Copy 5) (addC_good (g_rStops 2) (addC_good g_rDuration (addC_good g_rSameVisits (addC_good g_rFirstLit (addC_good g_rVisits (addC_good g_rStepsErr (addC_good g_rHeadErr (addC_good g_FirstLit (addC_good g_DurationOf (addC_good g_VisitsOf (addC_good g_CopyHead (addC_good g_Few (addC_good g_few (addC_good g_awake (noC_good _)))))))))))))))) (noHx_good _) hm ?_)
          simp +contextual -implicitDefEqProofs (maxSteps := 2000000) only [bg_eq, a4, nz0, x_awake, x_few, yh, yf, yc, y1, y2, y3, y4, y5, h8, c2, not_true_eq_false, not_false_eq_true, ne_eq, ruB, rh_no, Int.reduceLT, Int.reduceLE, Int.reduceAdd, Int.reduceSub, Int.reduceMul, Int.reduceNeg, Int.reduceToNat, Int.reduceEq, Int.reduceNe, Int.reduceTDiv, Int.reduceTMod, implies_true, putL, appN, appX, appC, Eng.Fi, reduceCtorEq, exists_eq_left', exists_eq_left, if_true, if_false, List.replicate, Nat.reduceAdd, Nat.reduceSub, Nat.reduceMul, Nat.reduceLeDiff, Nat.reduceLT, Nat.reduceEqDiff]
    · rw [Bool.eq_false_iff.2 hf] at yf
      refine c4.fok (by simp only [free_Hs, subs, sub1, free_Se, free_Sps]) (Cor.run (addC_good (g_Copy 5) (addC_good (g_rStops 2) (addC_good g_rDuration (addC_good g_rSameVisits (addC_good g_rFirstLit (addC_good g_rVisits (addC_good g_rStepsErr (addC_good g_rHeadErr (addC_good g_FirstLit (addC_good g_DurationOf (addC_good g_VisitsOf (addC_good g_CopyHead (addC_good g_Few (addC_good g_few (addC_good g_awake (noC_good _)))))))))))))))) (noHx_good _) hm ?_)
      simp +contextual -implicitDefEqProofs (maxSteps := 2000000) only [bg_eq, a4, nz0, x_awake, x_few, yf, h8, not_true_eq_false, not_false_eq_true, ne_eq, ruB, rh_no, Int.reduceLT, Int.reduceLE, Int.reduceAdd, Int.reduceSub, Int.reduceMul, Int.reduceNeg, Int.reduceToNat, Int.reduceEq, Int.reduceNe, Int.reduceTDiv, Int.reduceTMod, implies_true, putL, appN, appX, appC, Eng.Fi, reduceCtorEq, exists_eq_left', exists_eq_left, if_true, if_false, List.replicate, Nat.reduceAdd, Nat.reduceSub, Nat.reduceMul, Nat.reduceLeDiff, Nat.reduceLT, Nat.reduceEqDiff]
  · refine c4.fok (by simp only [free_Hs, subs, sub1, free_Se, free_Sps]) (Cor.run (addC_good (g_Copy 5) (addC_good (g_rStops 2) (addC_good g_rDuration (addC_good g_rSameVisits (addC_good g_rFirstLit (addC_good g_rVisits (addC_good g_rStepsErr (addC_good g_rHeadErr (addC_good g_FirstLit (addC_good g_DurationOf (addC_good g_VisitsOf (addC_good g_CopyHead (addC_good g_Few (addC_good g_few (addC_good g_awake (noC_good _)))))))))))))))) (noHx_good _) hm ?_)
    simp +contextual -implicitDefEqProofs (maxSteps := 2000000) only [bg_eq, a4, nz0, x_awake, x_few, h8, not_true_eq_false, not_false_eq_true, ne_eq, ruB, rh_no, Int.reduceLT, Int.reduceLE, Int.reduceAdd, Int.reduceSub, Int.reduceMul, Int.reduceNeg, Int.reduceToNat, Int.reduceEq, Int.reduceNe, Int.reduceTDiv, Int.reduceTMod, implies_true, putL, appN, appX, appC, Eng.Fi, reduceCtorEq, exists_eq_left', exists_eq_left, if_true, if_false, List.replicate, Nat.reduceAdd, Nat.reduceSub, Nat.reduceMul, Nat.reduceLeDiff, Nat.reduceLT, Nat.reduceEqDiff]
theorem law4 (n0 : Nat) (u0 : AV) (a0 : ArG P n0 42 u0) (n1 : Nat) (u1 : AV) (a1 : ArG P n1 22 u1) : FOk P 4 [u0, u1] (.bool true) := by
  obtain ⟨h, rfl, _⟩ := arHead a0
  obtain ⟨l, rfl⟩ := arSteps a1
  exact k_ScanRuns h l
end Sc
