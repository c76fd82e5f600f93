import Derived.Test.YtabkbhpeeefmgaaEngS9
import Derived.Test.YtabkbhpeeefmgaaW901
open Go Go.Proofs Eng
set_option maxRecDepth 100000
set_option linter.unusedSimpArgs false
set_option linter.unusedVariables false
def a63 : AC := .seq (.ops false [] [⟨some 3, .box 50 6 1 true, [.t 0], none⟩, ⟨some 4, .box 52 6 1 true, [.t 1], none⟩, ⟨some 5, .box 123 7 1 true, [.t 2], none⟩, ⟨some 6, .p (.mov), [.c (.int .i64 0)], none⟩, ⟨some 7, .p (.mov), [.c (.int .i64 0)], none⟩]) (.seq (.seq (.ops false [] [⟨some 10, .load 6 true, [.t 3], none⟩, ⟨some 11, .load 6 true, [.t 4], none⟩, ⟨some 12, .load 7 true, [.t 5], none⟩, ⟨some 13, .call 126, [.t 10, .t 11, .t 12], none⟩, ⟨some 8, .p (.mov), [.t 13], none⟩]) (.seq (.ops false [] [⟨some 14, .p (.mov), [.t 8], none⟩, ⟨some 15, .p (.binI .neq), [.t 14, .c (.int .i64 0)], none⟩]) (.cond (.t 15) (.seq (.ops false [] [⟨some 16, .p (.mov), [.t 8], none⟩, ⟨some 6, .p (.mov), [.c (.int .i64 0)], none⟩, ⟨some 7, .p (.mov), [.t 16], none⟩]) (.ret)) (.skip)))) (.seq (.ops false [] [⟨some 17, .p (.faddr 6), [.t 5], none⟩, ⟨some 18, .load 1 false, [.t 17], none⟩, ⟨some 9, .p (.mov), [.t 18], none⟩]) (.seq (.block 0 (.loop (.seq (.seq (.ops true [] [⟨some 19, .p (.mov), [.t 9], none⟩, ⟨some 20, .p (.faddr 5), [.t 5], none⟩, ⟨some 21, .load 1 false, [.t 20], none⟩, ⟨some 22, .p (.binI .geq), [.t 19, .t 21], none⟩, ⟨some 23, .p (.mov), [.t 22], none⟩, ⟨some 24, .load 6 true, [.t 3], some (23, true)⟩, ⟨some 25, .load 6 true, [.t 4], some (23, true)⟩, ⟨some 26, .p (.mov), [.t 9], some (23, true)⟩, ⟨some 27, .call 95, [.t 24, .t 25, .t 26], some (23, true)⟩, ⟨some 28, .load 7 true, [.t 5], some (23, true)⟩, ⟨some 29, .call 128, [.t 27, .t 28], some (23, true)⟩, ⟨some 30, .p (.notB), [.t 29], some (23, true)⟩, ⟨some 31, .p (.pick), [.t 23, .t 30, .c (.bool false)], none⟩]) (.cond (.t 31) (.skip) (.exit 0))) (.block 1 (.ops false [] [⟨some 32, .p (.mov), [.t 9], none⟩, ⟨some 33, .p (.binI .sub), [.t 32, .c (.int .i64 1)], none⟩, ⟨some 9, .p (.mov), [.t 33], none⟩]))))) (.seq (.seq (.ops false [] [⟨some 34, .p (.mov), [.t 9], none⟩, ⟨some 35, .p (.faddr 6), [.t 5], none⟩, ⟨some 36, .load 1 false, [.t 35], none⟩, ⟨some 37, .p (.binI .eql), [.t 34, .t 36], none⟩]) (.cond (.t 37) (.seq (.ops false [] [⟨some 6, .p (.mov), [.c (.int .i64 0)], none⟩, ⟨some 7, .p (.mov), [.c (.int .i64 12)], none⟩]) (.ret)) (.skip))) (.seq (.ops false [] [⟨some 38, .p (.mov), [.t 9], none⟩, ⟨some 39, .p (.binI .add), [.t 38, .c (.int .i64 1)], none⟩, ⟨some 6, .p (.mov), [.t 39], none⟩, ⟨some 7, .p (.mov), [.c (.int .i64 0)], none⟩]) (.ret))))))
theorem c63 : FnC Try.prog 63 40 a63 [.tmp 6, .tmp 7] := ⟨Try.call63, _, _, Try.func63, rfl, by kernel_rfl, by kernel_rfl, rfl⟩
namespace Wa
theorem ocE_z {b d : Bx} {c : Co} (h : ocE b d c = 0) : bxR b ∧ dfR d ∧ coR c ∧ c.fr ≤ c.to := by
  have z := firstE_zero h
  have z3 := firstE_zero (z (coE c) (by simp))
  exact ⟨(bxE_z (z (bxE b) (by simp))).1, (dfE_z (z (dfE d) (by simp))).1, unl_zero (z3 (unl (coR c) 2) (by simp)) (by decide), unl_zero (z3 (unl (c.fr ≤ c.to) 9) (by simp)) (by decide)⟩
def erG (b d : Bx) (c : Co) : Nat → Int → Int
  | 0, t => t
  | n + 1, t => if toP (afV b d t) c then t else erG b d c n (t - 1)
def eR (b d : Bx) (c : Co) : Int := erG b d c (c.to + 1 - c.fr).toNat c.to
def eRV (b d : Bx) (c : Co) : AV := if ocE b d c = 0 then (if eR b d c = c.to then .tup [I 0, I 12] else .tup [I (eR b d c + 1), I 0]) else .tup [I 0, I (ocE b d c)]
def S_eR (b d : Bx) (c : Co) : AState := ⟨[.any, .any, .any, .vp [eBx b] 0 0, .vp [eBx d] 0 0, .vp [eCo c] 0 0, I 0, I 0, .any, .any, .any, .any, .any, .any, .any, .any, .any, .any, .any, .any, .any, .any, .any, .any, .any, .any, .any, .any, .any, .any, .any, .any, .any, .any, .any, .any, .any, .any, .any, .any], [], 0⟩
def S_eRl (b d : Bx) (c : Co) (t : Int) : AState := ⟨[.any, .any, .any, .vp [eBx b] 0 0, .vp [eBx d] 0 0, .vp [eCo c] 0 0, .any, .any, .any, I t, .any, .any, .any, .any, .any, .any, .any, .any, .any, .any, .any, .any, .any, .any, .any, .any, .any, .any, .any, .any, .any, .any, .any, .any, .any, .any, .any, .any, .any, .any], [], 0⟩
theorem k_EarliestFree (b d : Bx) (c : Co) : FOk P 63 [eBx b, eBx d, eCo c] (eRV b d c) := by
  have yo := x_openCorridor b d c
  refine c63.fok (y := YH P noHx) rfl ?_
  rw [bg_eq]
  refine Cor.seq (Cor.run (noC_good _) (noHx_good _) hm ?_)
  simp +contextual -implicitDefEqProofs (maxSteps := 2000000) only [eThen_normal, ruB, rh_no, Int.reduceLT, Int.reduceLE, Int.reduceAdd, Int.reduceSub, Int.reduceMul, Int.reduceNeg, Int.reduceToNat, Int.reduceEq, Int.reduceNe, Int.reduceTDiv, Int.reduceTMod, implies_true, putL, appN, appX, appC, Eng.Fi, reduceCtorEq, exists_eq_left', exists_eq_left, if_true, if_false, List.replicate, Nat.reduceAdd, Nat.reduceSub, Nat.reduceMul, Nat.reduceLeDiff, Nat.reduceLT, Nat.reduceEqDiff]
  refine Cor.wk (s2 := S_eR b d c) (Wkn.to ⟨0, [], [0, 1, 2], 0, [3, 4, 5, 6, 7]⟩ rfl rfl (by simp [Wk.st, keepT, memN, Wk.fate, Wk.fate0, assoc, getE, Wk.hp, ABlk.sub, sub1, subs, S_eR])) ?_
  by_cases h0 : ocE b d c = 0
  · rw [eRV, if_pos h0]
    obtain ⟨hb, hd, hc, hle⟩ := ocE_z h0
    have hfr : tiR c.fr := hc.1.2
    have hto : tiR c.to := hc.2
    unfold tiR at hfr hto
    refine Cor.run (addC_good g_touches (addC_good g_after (addC_good g_openCorridor (noC_good _)))) (noHx_good _) hm ?_
    simp +contextual -implicitDefEqProofs (maxSteps := 2000000) only [S_eR, yo, h0, not_true_eq_false, ruB, rh_no, Int.reduceLT, Int.reduceLE, Int.reduceAdd, Int.reduceSub, Int.reduceMul, Int.reduceNeg, Int.reduceToNat, Int.reduceEq, Int.reduceNe, Int.reduceTDiv, Int.reduceTMod, implies_true, putL, appN, appX, appC, Eng.Fi, reduceCtorEq, exists_eq_left', exists_eq_left, if_true, if_false, List.replicate, Nat.reduceAdd, Nat.reduceSub, Nat.reduceMul, Nat.reduceLeDiff, Nat.reduceLT, Nat.reduceEqDiff]
    refine Cor.lp (addC_good g_touches (addC_good g_after (addC_good g_openCorridor (noC_good _)))) (noHx_good _) hm (S_eRl b d c) (fun t => (c.fr - 1 ≤ t ∧ t ≤ c.to) ∧ eR b d c = erG b d c (t + 1 - c.fr).toNat t) (fun t => (t + 1 - c.fr).toNat) (a := c.to) ⟨⟨by omega, Int.le_refl _⟩, rfl⟩ (Wkn.keep [3, 4, 5, 9] rfl) ?_
    rintro f t ⟨⟨ht1, ht2⟩, hf⟩ go
    have fin : ∀ t, c.fr - 1 ≤ t → t ≤ c.to → eR b d c = t → True := fun _ _ _ _ => trivial
    by_cases h : c.fr ≤ t
    · have e1 : (c.fr ≤ t) = True := eq_true h
      have e3 : IntKind.wrap .i64 (t - 1) = t - 1 := wrap64 (by omega) (by omega)
      have e4 : IntKind.wrap .i64 (t + 1) = t + 1 := wrap64 (by omega) (by omega)
      have en : (t + 1 - c.fr).toNat = (t - 1 + 1 - c.fr).toNat + 1 := by omega
      have ya := x_after b d t (by simp only [eq_iff_iff, iff_true]; exact ⟨hb, hd, by unfold tiR; omega⟩)
      have y2 := x_touches (afV b d t) c
      rw [en, erG] at hf
      generalize afV b d t = now at *
      by_cases c2 : toP now c
      · have c2' := eq_true c2
        rw [if_pos c2] at hf
        rw [hf]
        by_cases hq : t = c.to
        · have hq' := eq_true hq
          rw [if_pos hq]
          simp +contextual -implicitDefEqProofs (maxSteps := 2000000) only [S_eRl, e1, e3, e4, ya, y2, c2', hq', not_true_eq_false, ruB, rh_no, Int.reduceLT, Int.reduceLE, Int.reduceAdd, Int.reduceSub, Int.reduceMul, Int.reduceNeg, Int.reduceToNat, Int.reduceEq, Int.reduceNe, Int.reduceTDiv, Int.reduceTMod, implies_true, putL, appN, appX, appC, Eng.Fi, reduceCtorEq, exists_eq_left', exists_eq_left, if_true, if_false, List.replicate, Nat.reduceAdd, Nat.reduceSub, Nat.reduceMul, Nat.reduceLeDiff, Nat.reduceLT, Nat.reduceEqDiff]
        · have hq' := eq_false hq
          rw [if_neg hq]
          simp +contextual -implicitDefEqProofs (maxSteps := 2000000) only [S_eRl, e1, e3, e4, ya, y2, c2', hq', not_true_eq_false, ruB, rh_no, Int.reduceLT, Int.reduceLE, Int.reduceAdd, Int.reduceSub, Int.reduceMul, Int.reduceNeg, Int.reduceToNat, Int.reduceEq, Int.reduceNe, Int.reduceTDiv, Int.reduceTMod, implies_true, putL, appN, appX, appC, Eng.Fi, reduceCtorEq, exists_eq_left', exists_eq_left, if_true, if_false, List.replicate, Nat.reduceAdd, Nat.reduceSub, Nat.reduceMul, Nat.reduceLeDiff, Nat.reduceLT, Nat.reduceEqDiff]
      · have c2' := eq_false c2
        rw [if_neg c2] at hf
        simp +contextual -implicitDefEqProofs (maxSteps := 2000000) only [S_eRl, e1, e3, ya, y2, c2', not_false_eq_true, ruB, rh_no, Int.reduceLT, Int.reduceLE, Int.reduceAdd, Int.reduceSub, Int.reduceMul, Int.reduceNeg, Int.reduceToNat, Int.reduceEq, Int.reduceNe, Int.reduceTDiv, Int.reduceTMod, implies_true, putL, appN, appX, appC, Eng.Fi, reduceCtorEq, exists_eq_left', exists_eq_left, if_true, if_false, List.replicate, Nat.reduceAdd, Nat.reduceSub, Nat.reduceMul, Nat.reduceLeDiff, Nat.reduceLT, Nat.reduceEqDiff]
        exact go _ (t - 1) ⟨⟨by omega, by omega⟩, hf⟩ (by omega) (Wkn.keep [3, 4, 5, 9] rfl)
    · have e1 : (c.fr ≤ t) = False := eq_false h
      have e4 : IntKind.wrap .i64 (t + 1) = t + 1 := wrap64 (by omega) (by omega)
      have en : (t + 1 - c.fr).toNat = 0 := by omega
      rw [en, erG] at hf
      have hq : ¬ t = c.to := by omega
      have hq' := eq_false hq
      rw [hf, if_neg hq]
      simp +contextual -implicitDefEqProofs (maxSteps := 2000000) only [S_eRl, e1, e4, hq', not_false_eq_true, ruB, rh_no, Int.reduceLT, Int.reduceLE, Int.reduceAdd, Int.reduceSub, Int.reduceMul, Int.reduceNeg, Int.reduceToNat, Int.reduceEq, Int.reduceNe, Int.reduceTDiv, Int.reduceTMod, implies_true, putL, appN, appX, appC, Eng.Fi, reduceCtorEq, exists_eq_left', exists_eq_left, if_true, if_false, List.replicate, Nat.reduceAdd, Nat.reduceSub, Nat.reduceMul, Nat.reduceLeDiff, Nat.reduceLT, Nat.reduceEqDiff]
  · rw [eRV, if_neg h0]
    refine Cor.run (addC_good g_touches (addC_good g_after (addC_good g_openCorridor (noC_good _)))) (noHx_good _) hm ?_
    simp +contextual -implicitDefEqProofs (maxSteps := 2000000) only [S_eR, yo, h0, not_false_eq_true, ruB, rh_no, Int.reduceLT, Int.reduceLE, Int.reduceAdd, Int.reduceSub, Int.reduceMul, Int.reduceNeg, Int.reduceToNat, Int.reduceEq, Int.reduceNe, Int.reduceTDiv, Int.reduceTMod, implies_true, putL, appN, appX, appC, Eng.Fi, reduceCtorEq, exists_eq_left', exists_eq_left, if_true, if_false, List.replicate, Nat.reduceAdd, Nat.reduceSub, Nat.reduceMul, Nat.reduceLeDiff, Nat.reduceLT, Nat.reduceEqDiff]
def cf_EarliestFree : List AV → Option AV
  | [.agg [.int .i64 b_yl, .int .i64 b_yh, .int .i64 b_zl, .int .i64 b_zh, .int .i64 b_sl, .int .i64 b_sh], .agg [.int .i64 d_yl, .int .i64 d_yh, .int .i64 d_zl, .int .i64 d_zh, .int .i64 d_sl, .int .i64 d_sh], .agg [.int .i64 c_yl, .int .i64 c_yh, .int .i64 c_zl, .int .i64 c_zh, .int .i64 c_lim, .int .i64 c_fr, .int .i64 c_to]] => some (eRV (⟨b_yl, b_yh, b_zl, b_zh, b_sl, b_sh⟩ : Bx) (⟨d_yl, d_yh, d_zl, d_zh, d_sl, d_sh⟩ : Bx) (⟨c_yl, c_yh, c_zl, c_zh, c_lim, c_fr, c_to⟩ : Co))
  | _ => none
theorem g_EarliestFree : Fn P 63 cf_EarliestFree := fun args v hh => by
  unfold cf_EarliestFree at hh; split at hh
  · have hk := Option.some.inj hh; subst hk; exact k_EarliestFree ⟨_, _, _, _, _, _⟩ ⟨_, _, _, _, _, _⟩ ⟨_, _, _, _, _, _, _⟩
  · cases hh
theorem x_EarliestFree (b : Bx) (d : Bx) (c : Co) : cf_EarliestFree [.agg [I b.yl, I b.yh, I b.zl, I b.zh, I b.sl, I b.sh], .agg [I d.yl, I d.yh, I d.zl, I d.zh, I d.sl, I d.sh], .agg [I c.yl, I c.yh, I c.zl, I c.zh, I c.lim, I c.fr, I c.to]] = some (eRV b d c) := by
  rfl
end Wa
open Go Go.Proofs Eng
set_option maxRecDepth 100000
set_option linter.unusedSimpArgs false
set_option linter.unusedVariables false
namespace Wa
end Wa
