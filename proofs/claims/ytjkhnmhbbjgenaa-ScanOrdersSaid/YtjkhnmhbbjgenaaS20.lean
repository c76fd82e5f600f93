import Derived.Test.YtjkhnmhbbjgenaaEngS9
import Derived.Test.YtjkhnmhbbjgenaaS19
open Go Go.Proofs Eng
set_option maxRecDepth 100000
set_option linter.unusedSimpArgs false
set_option linter.unusedVariables false
def a28 : AC := .seq (.ops false [] [⟨some 1, .box 42 7 1 true, [.t 0], none⟩, ⟨some 2, .p (.mov), [.c (.int .i64 0)], none⟩]) (.seq (.ops false [] [⟨some 6, .load 7 true, [.t 1], none⟩, ⟨some 7, .call 43, [.t 6], none⟩, ⟨some 5, .p (.mov), [.t 7], none⟩, ⟨some 8, .p (.ext 0), [.t 5], none⟩, ⟨some 9, .p (.ext 1), [.t 5], none⟩, ⟨some 3, .p (.mov), [.t 8], none⟩, ⟨some 4, .p (.mov), [.t 9], none⟩]) (.seq (.ops false [] [⟨some 10, .p (.mov), [.t 4], none⟩, ⟨some 2, .p (.mov), [.t 10], none⟩]) (.ret)))
theorem c28 : FnC Try.prog 28 11 a28 [.tmp 2] := ⟨Try.call28, _, _, Try.func28, rfl, by kernel_rfl, by kernel_rfl, rfl⟩
def a43 : AC := .seq (.ops false [] [⟨some 1, .box 42 7 1 true, [.t 0], none⟩, ⟨some 2, .p (.mov), [.c (.int .i64 0)], none⟩, ⟨some 3, .p (.mov), [.c (.int .i64 0)], none⟩]) (.seq (.seq (.ops false [] [⟨some 9, .p (.faddr 0), [.t 1], none⟩, ⟨some 10, .load 2 true, [.t 9], none⟩, ⟨some 11, .call 44, [.t 10], none⟩, ⟨some 4, .p (.mov), [.t 11], none⟩]) (.seq (.ops false [] [⟨some 12, .p (.mov), [.t 4], none⟩, ⟨some 13, .p (.binI .neq), [.t 12, .c (.int .i64 0)], none⟩]) (.cond (.t 13) (.seq (.ops false [] [⟨some 14, .p (.mov), [.t 4], none⟩, ⟨some 2, .p (.mov), [.c (.int .i64 0)], none⟩, ⟨some 3, .p (.mov), [.t 14], none⟩]) (.ret)) (.skip)))) (.seq (.seq (.ops false [] [⟨some 15, .p (.faddr 2), [.t 1], none⟩, ⟨some 16, .load 2 true, [.t 15], none⟩, ⟨some 17, .call 34, [.t 16], none⟩, ⟨some 5, .p (.mov), [.t 17], none⟩]) (.seq (.ops false [] [⟨some 18, .p (.mov), [.t 5], none⟩, ⟨some 19, .p (.binI .neq), [.t 18, .c (.int .i64 0)], none⟩]) (.cond (.t 19) (.seq (.ops false [] [⟨some 20, .p (.mov), [.t 5], none⟩, ⟨some 2, .p (.mov), [.c (.int .i64 0)], none⟩, ⟨some 3, .p (.mov), [.t 20], none⟩]) (.ret)) (.skip)))) (.seq (.seq (.ops false [] [⟨some 21, .p (.faddr 4), [.t 1], none⟩, ⟨some 22, .load 2 true, [.t 21], none⟩, ⟨some 23, .call 34, [.t 22], none⟩, ⟨some 6, .p (.mov), [.t 23], none⟩]) (.seq (.ops false [] [⟨some 24, .p (.mov), [.t 6], none⟩, ⟨some 25, .p (.binI .neq), [.t 24, .c (.int .i64 0)], none⟩]) (.cond (.t 25) (.seq (.ops false [] [⟨some 26, .p (.mov), [.t 6], none⟩, ⟨some 2, .p (.mov), [.c (.int .i64 0)], none⟩, ⟨some 3, .p (.mov), [.t 26], none⟩]) (.ret)) (.skip)))) (.seq (.seq (.ops false [] [⟨some 27, .p (.faddr 6), [.t 1], none⟩, ⟨some 28, .load 1 false, [.t 27], none⟩, ⟨some 29, .p (.lenS), [.t 28], none⟩, ⟨some 30, .p (.binI .gtr), [.t 29, .c (.int .i64 6)], none⟩]) (.cond (.t 30) (.seq (.ops false [] [⟨some 2, .p (.mov), [.c (.int .i64 0)], none⟩, ⟨some 3, .p (.mov), [.c (.int .i64 8)], none⟩]) (.ret)) (.skip))) (.seq (.seq (.ops false [] [⟨some 7, .p (.mov), [.c (.int .i64 0)], none⟩]) (.block 0 (.loop (.seq (.seq (.ops false [] [⟨some 31, .p (.mov), [.t 7], none⟩, ⟨some 32, .p (.faddr 6), [.t 1], none⟩, ⟨some 33, .load 1 false, [.t 32], none⟩, ⟨some 34, .p (.lenS), [.t 33], none⟩, ⟨some 35, .p (.binI .lss), [.t 31, .t 34], none⟩]) (.cond (.t 35) (.skip) (.exit 0))) (.seq (.block 1 (.seq (.ops false [] [⟨some 38, .p (.faddr 6), [.t 1], none⟩, ⟨some 39, .load 1 false, [.t 38], none⟩, ⟨some 40, .p (.mov), [.t 7], none⟩, ⟨some 41, .p (.iaddrS 4), [.t 39, .t 40], none⟩, ⟨some 42, .load 4 true, [.t 41], none⟩, ⟨some 8, .alloc 121 4 [.agg [.int .i64 0, .int .i64 0, .int .i64 0, .int .i64 0]], [], none⟩, ⟨none, .store 4 true, [.t 8, .t 42], none⟩]) (.seq (.seq (.ops false [] [⟨some 43, .p (.faddr 0), [.t 8], none⟩, ⟨some 44, .p (.faddr 0), [.t 43], none⟩, ⟨some 45, .load 1 false, [.t 44], none⟩, ⟨some 46, .call 38, [.t 45, .c (.int .i64 0), .c (.int .i64 359)], none⟩, ⟨some 47, .p (.notB), [.t 46], none⟩, ⟨some 48, .p (.mov), [.t 47], none⟩, ⟨some 49, .p (.faddr 0), [.t 8], some (48, false)⟩, ⟨some 50, .p (.faddr 1), [.t 49], some (48, false)⟩, ⟨some 51, .load 1 false, [.t 50], some (48, false)⟩, ⟨some 52, .call 38, [.t 51, .c (.int .i64 0), .c (.int .i64 359)], some (48, false)⟩, ⟨some 53, .p (.notB), [.t 52], some (48, false)⟩, ⟨some 54, .p (.pick), [.t 48, .c (.bool true), .t 53], none⟩, ⟨some 55, .p (.mov), [.t 54], none⟩, ⟨some 56, .p (.faddr 2), [.t 8], some (55, false)⟩, ⟨some 57, .p (.faddr 0), [.t 56], some (55, false)⟩, ⟨some 58, .load 1 false, [.t 57], some (55, false)⟩, ⟨some 59, .call 38, [.t 58, .c (.int .i64 0), .c (.int .i64 90)], some (55, false)⟩, ⟨some 60, .p (.notB), [.t 59], some (55, false)⟩, ⟨some 61, .p (.pick), [.t 55, .c (.bool true), .t 60], none⟩, ⟨some 62, .p (.mov), [.t 61], none⟩, ⟨some 63, .p (.faddr 2), [.t 8], some (62, false)⟩, ⟨some 64, .p (.faddr 1), [.t 63], some (62, false)⟩, ⟨some 65, .load 1 false, [.t 64], some (62, false)⟩, ⟨some 66, .call 38, [.t 65, .c (.int .i64 0), .c (.int .i64 90)], some (62, false)⟩, ⟨some 67, .p (.notB), [.t 66], some (62, false)⟩, ⟨some 68, .p (.pick), [.t 62, .c (.bool true), .t 67], none⟩]) (.cond (.t 68) (.seq (.ops false [] [⟨some 69, .p (.mov), [.t 7], none⟩, ⟨some 2, .p (.mov), [.t 69], none⟩, ⟨some 3, .p (.mov), [.c (.int .i64 2)], none⟩]) (.ret)) (.skip))) (.seq (.ops false [] [⟨some 70, .p (.faddr 2), [.t 8], none⟩, ⟨some 71, .p (.faddr 0), [.t 70], none⟩, ⟨some 72, .load 1 false, [.t 71], none⟩, ⟨some 73, .p (.faddr 2), [.t 8], none⟩, ⟨some 74, .p (.faddr 1), [.t 73], none⟩, ⟨some 75, .load 1 false, [.t 74], none⟩, ⟨some 76, .p (.binI .gtr), [.t 72, .t 75], none⟩]) (.cond (.t 76) (.seq (.ops false [] [⟨some 77, .p (.mov), [.t 7], none⟩, ⟨some 2, .p (.mov), [.t 77], none⟩, ⟨some 3, .p (.mov), [.c (.int .i64 9)], none⟩]) (.ret)) (.skip)))))) (.ops false [] [⟨some 36, .p (.mov), [.t 7], none⟩, ⟨some 37, .p (.binI .add), [.t 36, .c (.int .i64 1)], none⟩, ⟨some 7, .p (.mov), [.t 37], none⟩])))))) (.seq (.seq (.ops false [] [⟨some 78, .load 7 true, [.t 1], none⟩, ⟨some 79, .p (.faddr 0), [.t 1], none⟩, ⟨some 80, .load 2 true, [.t 79], none⟩, ⟨some 81, .call 45, [.t 78, .t 80], none⟩]) (.cond (.t 81) (.seq (.ops false [] [⟨some 2, .p (.mov), [.c (.int .i64 0)], none⟩, ⟨some 3, .p (.mov), [.c (.int .i64 22)], none⟩]) (.ret)) (.skip))) (.seq (.ops false [] [⟨some 2, .p (.mov), [.c (.int .i64 0)], none⟩, ⟨some 3, .p (.mov), [.c (.int .i64 0)], none⟩]) (.ret))))))))
theorem c43 : FnC Try.prog 43 82 a43 [.tmp 2, .tmp 3] := ⟨Try.call43, _, _, Try.func43, rfl, by kernel_rfl, by kernel_rfl, rfl⟩
namespace Sc
theorem hd1_val (h : Hd) : hd1 h = if drE h.home = 0 then (if axE h.ra h.aa = 0 then (if axE h.re h.ae = 0 then (if (h.res.length : Int) ≤ 6 then 0 else 8) else axE h.re h.ae) else axE h.ra h.aa) else drE h.home := by
  unfold hd1 unl
  simp only [firstE]
  split
  · split
    · split
      · split <;> simp_all
      · rfl
    · rfl
  · rfl
def S43 (h : Hd) (n : Nat) : AState := ⟨[.any, .ptr 0 7 0 0, .any, .any, .any, .any, .any, I n, .any, .any, .any, .any, .any, .any, .any, .any, .any, .any, .any, .any, .any, .any, .any, .any, .any, .any, .any, .any, .any, .any, .any, .any, .any, .any, .any, .any, .any, .any, .any, .any, .any, .any, .any, .any, .any, .any, .any, .any, .any, .any, .any, .any, .any, .any, .any, .any, .any, .any, .any, .any, .any, .any, .any, .any, .any, .any, .any, .any, .any, .any, .any, .any, .any, .any, .any, .any, .any, .any, .any, .any, .any, .any], [⟨0, 0, .rows 42 7 [eHd h]⟩], 1⟩
theorem seE_val (s : Se) : seE s = if seR s then (if s.elo ≤ s.ehi then 0 else 9) else 2 := by
  unfold seE unl
  simp only [firstE]
  split
  · split <;> simp_all
  · rfl
theorem k_rCheckHead (h : Hd) (hl : h.res.length ≤ 1000) : FOk P 43 [eHd h] (.tup [I (hdC h).1, I (hdC h).2]) := by
  have lm : (h.res.map eSe).length = h.res.length := by simp
  have hv := hd1_val h
  have yd := x_rDirectionErr h.home.az h.home.el
  have e1' : drE ⟨h.home.az, h.home.el⟩ = drE h.home := rfl
  rw [e1'] at yd
  by_cases c1 : drE h.home = 0
  · rw [if_pos c1] at hv
    by_cases c2 : axE h.ra h.aa = 0
    · rw [if_pos c2] at hv
      by_cases c3 : axE h.re h.ae = 0
      · rw [if_pos c3] at hv
        by_cases c4 : (h.res.length : Int) ≤ 6
        · rw [if_pos c4] at hv
          have c4' : ¬ (6 < (h.res.length : Int)) := by omega
          have hd0 := drE_zero c1
          refine c43.fok (by simp only [free_Hs, free_Hd, subs, sub1, free_Se]) (Cor.run (addC_good g_rIsReserved (addC_good g_Within (addC_good g_rAxisErr (addC_good g_rDirectionErr (noC_good _))))) (noHx_good _) hm ?_)
          simp +contextual -implicitDefEqProofs (maxSteps := 2000000) only [bg_eq, a43, yd, x_rAxisErr, c1, c2, c3, c4', lm, not_true_eq_false, not_false_eq_true, ruB, rh_no, Int.reduceLT, Int.reduceLE, Int.reduceAdd, Int.reduceSub, Int.reduceMul, Int.reduceNeg, Int.reduceToNat, Int.reduceEq, Int.reduceNe, Int.reduceTDiv, Int.reduceTMod, implies_true, putL, appN, appX, appC, Eng.Fi, reduceCtorEq, exists_eq_left', exists_eq_left, if_true, if_false, List.replicate, Nat.reduceAdd, Nat.reduceSub, Nat.reduceMul, Nat.reduceLeDiff, Nat.reduceLT, Nat.reduceEqDiff]
          refine Cor.lp (addC_good g_rIsReserved (addC_good g_Within (addC_good g_rAxisErr (addC_good g_rDirectionErr (noC_good _))))) (noHx_good _) hm (S43 h) (fun n => n ≤ h.res.length ∧ secC 0 h.res = secC n (h.res.drop n)) (fun n => h.res.length - n) (a := 0) ⟨Nat.zero_le _, rfl⟩ (Wkn.to ⟨0, [(0, 0)], [], 1, [1, 7]⟩ rfl rfl (by simp only [Wk.st, keepT, sub1, subs, Wk.hp, ABlk.sub, S43, free_Se]; try rfl)) ?_
          intro f n ⟨hn, hf⟩ go
          rcases Nat.lt_or_ge n h.res.length with hlt | hlt
          · have e1 : decide ((n : Int) < (h.res.length : Int)) = true := lt_t hlt
            have e2 : (h.res.map eSe)[n]? = some (eSe h.res[n]) := get_e eSe h.res hlt
            have e3 : IntKind.wrap .i64 ((n : Int) + 1) = ((n + 1 : Nat) : Int) := suc_w (by omega)
            rw [List.drop_eq_getElem_cons hlt, secC] at hf
            have hs := seE_val h.res[n]
            by_cases q1 : seR h.res[n]
            · rw [if_pos q1] at hs
              have q1' := q1
              unfold seR azR elR at q1'
              by_cases q2 : h.res[n].elo ≤ h.res[n].ehi
              · rw [if_pos q2] at hs
                rw [if_pos hs] at hf
                have q2' : ¬ (h.res[n].ehi < h.res[n].elo) := by omega
                simp +contextual -implicitDefEqProofs (maxSteps := 2000000) only [S43, e1, e2, e3, x_Within, q1', q2', lm, not_true_eq_false, not_false_eq_true, ruB, rh_no, Int.reduceLT, Int.reduceLE, Int.reduceAdd, Int.reduceSub, Int.reduceMul, Int.reduceNeg, Int.reduceToNat, Int.reduceEq, Int.reduceNe, Int.reduceTDiv, Int.reduceTMod, implies_true, putL, appN, appX, appC, Eng.Fi, reduceCtorEq, exists_eq_left', exists_eq_left, if_true, if_false, List.replicate, Nat.reduceAdd, Nat.reduceSub, Nat.reduceMul, Nat.reduceLeDiff, Nat.reduceLT, Nat.reduceEqDiff]
                exact go _ (n + 1) ⟨hlt, hf⟩ (by omega) (Wkn.to ⟨0, [(0, 0)], [], 1, [1, 7]⟩ rfl rfl (by simp only [Wk.st, keepT, sub1, subs, Wk.hp, ABlk.sub, S43, free_Se]; try rfl))
              · rw [if_neg q2] at hs
                rw [if_neg (by rw [hs]; decide), hs] at hf
                have q2' : h.res[n].ehi < h.res[n].elo := by omega
                have hc : hdC h = ((n : Int), 9) := by unfold hdC; rw [if_pos hv, hf]
                rw [hc]
                simp +contextual -implicitDefEqProofs (maxSteps := 2000000) only [S43, e1, e2, e3, x_Within, q1', q2', lm, not_true_eq_false, not_false_eq_true, ruB, rh_no, Int.reduceLT, Int.reduceLE, Int.reduceAdd, Int.reduceSub, Int.reduceMul, Int.reduceNeg, Int.reduceToNat, Int.reduceEq, Int.reduceNe, Int.reduceTDiv, Int.reduceTMod, implies_true, putL, appN, appX, appC, Eng.Fi, reduceCtorEq, exists_eq_left', exists_eq_left, if_true, if_false, List.replicate, Nat.reduceAdd, Nat.reduceSub, Nat.reduceMul, Nat.reduceLeDiff, Nat.reduceLT, Nat.reduceEqDiff]
            · rw [if_neg q1] at hs
              rw [if_neg (by rw [hs]; decide), hs] at hf
              have hc : hdC h = ((n : Int), 2) := by unfold hdC; rw [if_pos hv, hf]
              rw [hc]
              have q1' : ((((¬ (0 ≤ h.res[n].alo ∧ h.res[n].alo ≤ 359)) ∨ ¬ (0 ≤ h.res[n].ahi ∧ h.res[n].ahi ≤ 359)) ∨ ¬ (0 ≤ h.res[n].elo ∧ h.res[n].elo ≤ 90)) ∨ ¬ (0 ≤ h.res[n].ehi ∧ h.res[n].ehi ≤ 90)) = True := by
                simp only [eq_iff_iff, iff_true]; unfold seR azR elR at q1; omega
              simp +contextual -implicitDefEqProofs (maxSteps := 2000000) only [S43, e1, e2, e3, x_Within, q1', lm, not_true_eq_false, not_false_eq_true, ruB, rh_no, Int.reduceLT, Int.reduceLE, Int.reduceAdd, Int.reduceSub, Int.reduceMul, Int.reduceNeg, Int.reduceToNat, Int.reduceEq, Int.reduceNe, Int.reduceTDiv, Int.reduceTMod, implies_true, putL, appN, appX, appC, Eng.Fi, reduceCtorEq, exists_eq_left', exists_eq_left, if_true, if_false, List.replicate, Nat.reduceAdd, Nat.reduceSub, Nat.reduceMul, Nat.reduceLeDiff, Nat.reduceLT, Nat.reduceEqDiff]
          · have e1 : decide ((n : Int) < (h.res.length : Int)) = false := lt_f hlt
            rw [List.drop_eq_nil_of_le hlt, secC] at hf
            have y := x_rIsReserved h h.home (by simp only [eq_iff_iff, iff_true]; exact ⟨⟨hl, fun s hs => (secC_none hf s hs).1⟩, hd0⟩)
            have hc : hdC h = (0, unl (resv h.res h.home = false) 22) := by unfold hdC; rw [if_pos hv, hf]
            rw [hc]
            cases hr : resv h.res h.home with
            | true =>
              rw [hr] at y
              simp +contextual -implicitDefEqProofs (maxSteps := 2000000) only [S43, e1, y, lm, ruB, rh_no, Int.reduceLT, Int.reduceLE, Int.reduceAdd, Int.reduceSub, Int.reduceMul, Int.reduceNeg, Int.reduceToNat, Int.reduceEq, Int.reduceNe, Int.reduceTDiv, Int.reduceTMod, implies_true, putL, appN, appX, appC, Eng.Fi, reduceCtorEq, exists_eq_left', exists_eq_left, if_true, if_false, List.replicate, Nat.reduceAdd, Nat.reduceSub, Nat.reduceMul, Nat.reduceLeDiff, Nat.reduceLT, Nat.reduceEqDiff]
              rfl
            | false =>
              rw [hr] at y
              simp +contextual -implicitDefEqProofs (maxSteps := 2000000) only [S43, e1, y, lm, ruB, rh_no, Int.reduceLT, Int.reduceLE, Int.reduceAdd, Int.reduceSub, Int.reduceMul, Int.reduceNeg, Int.reduceToNat, Int.reduceEq, Int.reduceNe, Int.reduceTDiv, Int.reduceTMod, implies_true, putL, appN, appX, appC, Eng.Fi, reduceCtorEq, exists_eq_left', exists_eq_left, if_true, if_false, List.replicate, Nat.reduceAdd, Nat.reduceSub, Nat.reduceMul, Nat.reduceLeDiff, Nat.reduceLT, Nat.reduceEqDiff]
              rfl
        · rw [if_neg c4] at hv
          have c4' : (6 < (h.res.length : Int)) := by omega
          have hc : hdC h = (0, 8) := by unfold hdC; rw [if_neg (by rw [hv]; decide), hv]
          rw [hc]
          refine c43.fok (by simp only [free_Hs, free_Hd, subs, sub1, free_Se]) (Cor.run (addC_good g_rIsReserved (addC_good g_Within (addC_good g_rAxisErr (addC_good g_rDirectionErr (noC_good _))))) (noHx_good _) hm ?_)
          simp +contextual -implicitDefEqProofs (maxSteps := 2000000) only [bg_eq, a43, yd, x_rAxisErr, c1, c2, c3, c4', lm, not_true_eq_false, not_false_eq_true, ruB, rh_no, Int.reduceLT, Int.reduceLE, Int.reduceAdd, Int.reduceSub, Int.reduceMul, Int.reduceNeg, Int.reduceToNat, Int.reduceEq, Int.reduceNe, Int.reduceTDiv, Int.reduceTMod, implies_true, putL, appN, appX, appC, Eng.Fi, reduceCtorEq, exists_eq_left', exists_eq_left, if_true, if_false, List.replicate, Nat.reduceAdd, Nat.reduceSub, Nat.reduceMul, Nat.reduceLeDiff, Nat.reduceLT, Nat.reduceEqDiff]
      · rw [if_neg c3] at hv
        have hc : hdC h = (0, axE h.re h.ae) := by unfold hdC; rw [if_neg (by rw [hv]; exact c3), hv]
        rw [hc]
        refine c43.fok (by simp only [free_Hs, free_Hd, subs, sub1, free_Se]) (Cor.run (addC_good g_rIsReserved (addC_good g_Within (addC_good g_rAxisErr (addC_good g_rDirectionErr (noC_good _))))) (noHx_good _) hm ?_)
        simp +contextual -implicitDefEqProofs (maxSteps := 2000000) only [bg_eq, a43, yd, x_rAxisErr, c1, c2, c3, lm, not_true_eq_false, not_false_eq_true, ruB, rh_no, Int.reduceLT, Int.reduceLE, Int.reduceAdd, Int.reduceSub, Int.reduceMul, Int.reduceNeg, Int.reduceToNat, Int.reduceEq, Int.reduceNe, Int.reduceTDiv, Int.reduceTMod, implies_true, putL, appN, appX, appC, Eng.Fi, reduceCtorEq, exists_eq_left', exists_eq_left, if_true, if_false, List.replicate, Nat.reduceAdd, Nat.reduceSub, Nat.reduceMul, Nat.reduceLeDiff, Nat.reduceLT, Nat.reduceEqDiff]
    · rw [if_neg c2] at hv
      have hc : hdC h = (0, axE h.ra h.aa) := by unfold hdC; rw [if_neg (by rw [hv]; exact c2), hv]
      rw [hc]
      refine c43.fok (by simp only [free_Hs, free_Hd, subs, sub1, free_Se]) (Cor.run (addC_good g_rIsReserved (addC_good g_Within (addC_good g_rAxisErr (addC_good g_rDirectionErr (noC_good _))))) (noHx_good _) hm ?_)
      simp +contextual -implicitDefEqProofs (maxSteps := 2000000) only [bg_eq, a43, yd, x_rAxisErr, c1, c2, lm, not_true_eq_false, not_false_eq_true, ruB, rh_no, Int.reduceLT, Int.reduceLE, Int.reduceAdd, Int.reduceSub, Int.reduceMul, Int.reduceNeg, Int.reduceToNat, Int.reduceEq, Int.reduceNe, Int.reduceTDiv, Int.reduceTMod, implies_true, putL, appN, appX, appC, Eng.Fi, reduceCtorEq, exists_eq_left', exists_eq_left, if_true, if_false, List.replicate, Nat.reduceAdd, Nat.reduceSub, Nat.reduceMul, Nat.reduceLeDiff, Nat.reduceLT, Nat.reduceEqDiff]
  · rw [if_neg c1] at hv
    have hc : hdC h = (0, drE h.home) := by unfold hdC; rw [if_neg (by rw [hv]; exact c1), hv]
    rw [hc]
    refine c43.fok (by simp only [free_Hs, free_Hd, subs, sub1, free_Se]) (Cor.run (addC_good g_rIsReserved (addC_good g_Within (addC_good g_rAxisErr (addC_good g_rDirectionErr (noC_good _))))) (noHx_good _) hm ?_)
    simp +contextual -implicitDefEqProofs (maxSteps := 2000000) only [bg_eq, a43, yd, x_rAxisErr, c1, lm, not_true_eq_false, not_false_eq_true, ruB, rh_no, Int.reduceLT, Int.reduceLE, Int.reduceAdd, Int.reduceSub, Int.reduceMul, Int.reduceNeg, Int.reduceToNat, Int.reduceEq, Int.reduceNe, Int.reduceTDiv, Int.reduceTMod, implies_true, putL, appN, appX, appC, Eng.Fi, reduceCtorEq, exists_eq_left', exists_eq_left, if_true, if_false, List.replicate, Nat.reduceAdd, Nat.reduceSub, Nat.reduceMul, Nat.reduceLeDiff, Nat.reduceLT, Nat.reduceEqDiff]
def cf_rCheckHead : List AV → Option AV
  | [h_v] => onH h_v fun h => if h.res.length ≤ 1000 then some (.tup [I (hdC h).1, I (hdC h).2]) else none
  | _ => none
theorem g_rCheckHead : Fn P 43 cf_rCheckHead := fun args v hh => by
  unfold cf_rCheckHead at hh; split at hh
  · obtain ⟨h, rfl, hh1⟩ := onH_inv hh
    split at hh1
    · rename_i hc; have hk := Option.some.inj hh1; subst hk; exact k_rCheckHead _ hc
    · cases hh1
  · cases hh
theorem x_rCheckHead (h : Hd) (hc : (h.res.length ≤ 1000) = True) : cf_rCheckHead [eHd h] = some (.tup [I (hdC h).1, I (hdC h).2]) := by
  simp only [cf_rCheckHead, onH_e]
  exact if_pos (by rw [hc]; trivial)
theorem k_rHeadErr (h : Hd) (hl : h.res.length ≤ 1000) : FOk P 28 [eHd h] (I (hdE h)) := by
  have y := x_rCheckHead h (by simp only [hl])
  refine c28.fok (by simp only [free_Hs, free_Hd, subs, sub1, free_Se]) (Cor.run (addC_good g_rCheckHead (noC_good _)) (noHx_good _) hm ?_)
  simp +contextual -implicitDefEqProofs (maxSteps := 2000000) only [bg_eq, a28, y, hdE, ruB, rh_no, Int.reduceLT, Int.reduceLE, Int.reduceAdd, Int.reduceSub, Int.reduceMul, Int.reduceNeg, Int.reduceToNat, Int.reduceEq, Int.reduceNe, Int.reduceTDiv, Int.reduceTMod, implies_true, putL, appN, appX, appC, Eng.Fi, reduceCtorEq, exists_eq_left', exists_eq_left, if_true, if_false, List.replicate, Nat.reduceAdd, Nat.reduceSub, Nat.reduceMul, Nat.reduceLeDiff, Nat.reduceLT, Nat.reduceEqDiff]
def cf_rHeadErr : List AV → Option AV
  | [h_v] => onH h_v fun h => if h.res.length ≤ 1000 then some (I (hdE h)) else none
  | _ => none
theorem g_rHeadErr : Fn P 28 cf_rHeadErr := fun args v hh => by
  unfold cf_rHeadErr at hh; split at hh
  · obtain ⟨h, rfl, hh1⟩ := onH_inv hh
    split at hh1
    · rename_i hc; have hk := Option.some.inj hh1; subst hk; exact k_rHeadErr _ hc
    · cases hh1
  · cases hh
theorem x_rHeadErr (h : Hd) (hc : (h.res.length ≤ 1000) = True) : cf_rHeadErr [eHd h] = some (I (hdE h)) := by
  simp only [cf_rHeadErr, onH_e]
  exact if_pos (by rw [hc]; trivial)
end Sc
