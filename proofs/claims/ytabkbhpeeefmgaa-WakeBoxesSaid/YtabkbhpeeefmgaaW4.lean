import Derived.Test.YtabkbhpeeefmgaaEngS9
import Derived.Test.YtabkbhpeeefmgaaW8
open Go Go.Proofs Eng
set_option maxRecDepth 100000
set_option linter.unusedSimpArgs false
set_option linter.unusedVariables false
def a26 : AC := .seq (.ops false [] [⟨some 2, .box 50 6 1 true, [.t 0], none⟩, ⟨some 3, .box 50 6 1 true, [.t 1], none⟩, ⟨some 4, .alloc 50 6 [.agg [.int .i64 0, .int .i64 0, .int .i64 0, .int .i64 0, .int .i64 0, .int .i64 0]], [], none⟩, ⟨some 5, .p (.mov), [.c (.int .i64 0)], none⟩]) (.seq (.seq (.ops true [] [⟨some 13, .load 6 true, [.t 2], none⟩, ⟨some 14, .call 24, [.t 13], none⟩, ⟨some 15, .load 6 true, [.t 3], none⟩, ⟨some 16, .call 24, [.t 15], none⟩, ⟨some 17, .fbs 1, [.t 14, .t 16], none⟩, ⟨some 18, .call 79, [.t 17], none⟩, ⟨some 6, .p (.mov), [.t 18], none⟩]) (.seq (.ops false [] [⟨some 19, .p (.mov), [.t 6], none⟩, ⟨some 20, .p (.binI .neq), [.t 19, .c (.int .i64 0)], none⟩]) (.cond (.t 20) (.seq (.ops false [] [⟨some 21, .p (.build [.int .i64 0, .int .i64 0, .int .i64 0, .int .i64 0, .int .i64 0, .int .i64 0] []), [], none⟩, ⟨some 22, .p (.mov), [.t 6], none⟩, ⟨none, .store 6 true, [.t 4, .t 21], none⟩, ⟨some 5, .p (.mov), [.t 22], none⟩]) (.ret)) (.skip)))) (.seq (.ops false [] [⟨some 24, .p (.faddr 0), [.t 2], none⟩, ⟨some 25, .load 2 true, [.t 24], none⟩, ⟨some 26, .p (.faddr 0), [.t 3], none⟩, ⟨some 27, .load 2 true, [.t 26], none⟩, ⟨some 28, .call 96, [.t 25, .t 27], none⟩, ⟨some 23, .p (.mov), [.t 28], none⟩, ⟨some 29, .p (.ext 0), [.t 23], none⟩, ⟨some 30, .p (.ext 1), [.t 23], none⟩, ⟨some 7, .alloc 48 2 [.agg [.int .i64 0, .int .i64 0]], [], none⟩, ⟨none, .store 2 true, [.t 7, .t 29], none⟩, ⟨some 8, .p (.mov), [.t 30], none⟩]) (.seq (.ops false [] [⟨some 32, .p (.faddr 2), [.t 2], none⟩, ⟨some 33, .load 2 true, [.t 32], none⟩, ⟨some 34, .p (.faddr 2), [.t 3], none⟩, ⟨some 35, .load 2 true, [.t 34], none⟩, ⟨some 36, .call 96, [.t 33, .t 35], none⟩, ⟨some 31, .p (.mov), [.t 36], none⟩, ⟨some 37, .p (.ext 0), [.t 31], none⟩, ⟨some 38, .p (.ext 1), [.t 31], none⟩, ⟨some 9, .alloc 48 2 [.agg [.int .i64 0, .int .i64 0]], [], none⟩, ⟨none, .store 2 true, [.t 9, .t 37], none⟩, ⟨some 10, .p (.mov), [.t 38], none⟩]) (.seq (.ops false [] [⟨some 40, .p (.faddr 4), [.t 2], none⟩, ⟨some 41, .load 2 true, [.t 40], none⟩, ⟨some 42, .p (.faddr 4), [.t 3], none⟩, ⟨some 43, .load 2 true, [.t 42], none⟩, ⟨some 44, .call 96, [.t 41, .t 43], none⟩, ⟨some 39, .p (.mov), [.t 44], none⟩, ⟨some 45, .p (.ext 0), [.t 39], none⟩, ⟨some 46, .p (.ext 1), [.t 39], none⟩, ⟨some 11, .alloc 48 2 [.agg [.int .i64 0, .int .i64 0]], [], none⟩, ⟨none, .store 2 true, [.t 11, .t 45], none⟩, ⟨some 12, .p (.mov), [.t 46], none⟩]) (.seq (.seq (.ops false [] [⟨some 47, .p (.mov), [.t 8], none⟩, ⟨some 48, .p (.notB), [.t 47], none⟩, ⟨some 49, .p (.mov), [.t 48], none⟩, ⟨some 50, .p (.mov), [.t 10], some (49, false)⟩, ⟨some 51, .p (.notB), [.t 50], some (49, false)⟩, ⟨some 52, .p (.pick), [.t 49, .c (.bool true), .t 51], none⟩, ⟨some 53, .p (.mov), [.t 52], none⟩, ⟨some 54, .p (.mov), [.t 12], some (53, false)⟩, ⟨some 55, .p (.notB), [.t 54], some (53, false)⟩, ⟨some 56, .p (.pick), [.t 53, .c (.bool true), .t 55], none⟩]) (.cond (.t 56) (.seq (.ops false [] [⟨some 57, .p (.build [.int .i64 0, .int .i64 0, .int .i64 0, .int .i64 0, .int .i64 0, .int .i64 0] []), [], none⟩, ⟨none, .store 6 true, [.t 4, .t 57], none⟩, ⟨some 5, .p (.mov), [.c (.int .i64 13)], none⟩]) (.ret)) (.skip))) (.seq (.ops false [] [⟨some 58, .load 2 true, [.t 7], none⟩, ⟨some 59, .load 2 true, [.t 9], none⟩, ⟨some 60, .load 2 true, [.t 11], none⟩, ⟨some 61, .p (.build [.int .i64 0, .int .i64 0, .int .i64 0, .int .i64 0, .int .i64 0, .int .i64 0] [(0, 2), (2, 2), (4, 2)]), [.t 58, .t 59, .t 60], none⟩, ⟨none, .store 6 true, [.t 4, .t 61], none⟩, ⟨some 5, .p (.mov), [.c (.int .i64 0)], none⟩]) (.ret)))))))
theorem c26 : FnC Try.prog 26 62 a26 [.cell 4 6 true, .tmp 5] := ⟨Try.call26, _, _, Try.func26, rfl, by kernel_rfl, by kernel_rfl, rfl⟩
def a97 : AC := .seq (.ops false [] [⟨some 3, .box 48 2 1 true, [.t 0], none⟩, ⟨some 6, .p (.mov), [.c (.bool false)], none⟩]) (.seq (.ops false [] [⟨some 7, .p (.faddr 0), [.t 3], none⟩, ⟨some 8, .load 1 false, [.t 7], none⟩, ⟨some 9, .p (.mov), [.t 1], none⟩, ⟨some 10, .p (.mov), [.t 2], none⟩, ⟨some 11, .call 20, [.t 8, .t 9, .t 10], none⟩, ⟨some 12, .p (.mov), [.t 11], none⟩, ⟨some 13, .p (.faddr 1), [.t 3], some (12, true)⟩, ⟨some 14, .load 1 false, [.t 13], some (12, true)⟩, ⟨some 15, .p (.mov), [.t 1], some (12, true)⟩, ⟨some 16, .p (.mov), [.t 2], some (12, true)⟩, ⟨some 17, .call 20, [.t 14, .t 15, .t 16], some (12, true)⟩, ⟨some 18, .p (.pick), [.t 12, .t 17, .c (.bool false)], none⟩, ⟨some 6, .p (.mov), [.t 18], none⟩]) (.ret))
theorem c97 : FnC Try.prog 97 19 a97 [.tmp 6] := ⟨Try.call97, _, _, Try.func97, rfl, by kernel_rfl, by kernel_rfl, rfl⟩
def a98 : AC := .seq (.ops false [] [⟨some 2, .box 48 2 1 true, [.t 0], none⟩, ⟨some 3, .box 48 2 1 true, [.t 1], none⟩, ⟨some 4, .alloc 48 2 [.agg [.int .i64 0, .int .i64 0]], [], none⟩, ⟨some 5, .p (.mov), [.c (.bool false)], none⟩]) (.seq (.ops false [] [⟨some 7, .p (.faddr 0), [.t 2], none⟩, ⟨some 8, .load 1 false, [.t 7], none⟩, ⟨some 9, .p (.faddr 0), [.t 3], none⟩, ⟨some 10, .load 1 false, [.t 9], none⟩, ⟨some 11, .p (.mm true), [.t 8, .t 10], none⟩, ⟨some 12, .p (.faddr 1), [.t 2], none⟩, ⟨some 13, .load 1 false, [.t 12], none⟩, ⟨some 14, .p (.faddr 1), [.t 3], none⟩, ⟨some 15, .load 1 false, [.t 14], none⟩, ⟨some 16, .p (.mm false), [.t 13, .t 15], none⟩, ⟨some 17, .p (.build [.int .i64 0, .int .i64 0] [(0, 1), (1, 1)]), [.t 11, .t 16], none⟩, ⟨some 6, .alloc 48 2 [.agg [.int .i64 0, .int .i64 0]], [], none⟩, ⟨none, .store 2 true, [.t 6, .t 17], none⟩]) (.seq (.ops true [(2, 6), (4, 6)] [⟨some 18, .load 2 true, [.t 6], none⟩, ⟨some 19, .p (.faddr 0), [.t 6], none⟩, ⟨some 20, .load 1 false, [.t 19], none⟩, ⟨some 21, .p (.faddr 1), [.t 6], none⟩, ⟨some 22, .load 1 false, [.t 21], none⟩, ⟨some 23, .p (.binI .leq), [.t 20, .t 22], none⟩, ⟨none, .store 2 true, [.t 4, .t 18], none⟩, ⟨some 5, .p (.mov), [.t 23], none⟩]) (.ret)))
theorem c98 : FnC Try.prog 98 24 a98 [.cell 4 2 true, .tmp 5] := ⟨Try.call98, _, _, Try.func98, rfl, by kernel_rfl, by kernel_rfl, rfl⟩
def a126 : AC := .seq (.ops false [] [⟨some 3, .box 50 6 1 true, [.t 0], none⟩, ⟨some 4, .box 52 6 1 true, [.t 1], none⟩, ⟨some 5, .box 123 7 1 true, [.t 2], none⟩, ⟨some 6, .p (.mov), [.c (.int .i64 0)], none⟩]) (.seq (.ops true [] [⟨some 7, .load 6 true, [.t 3], none⟩, ⟨some 8, .call 24, [.t 7], none⟩, ⟨some 9, .load 6 true, [.t 4], none⟩, ⟨some 10, .call 93, [.t 9], none⟩, ⟨some 11, .load 7 true, [.t 5], none⟩, ⟨some 12, .call 155, [.t 11], none⟩, ⟨some 13, .fbs 1, [.t 8, .t 10, .t 12], none⟩, ⟨some 14, .call 79, [.t 13], none⟩, ⟨some 6, .p (.mov), [.t 14], none⟩]) (.ret))
theorem c126 : FnC Try.prog 126 15 a126 [.tmp 6] := ⟨Try.call126, _, _, Try.func126, rfl, by kernel_rfl, by kernel_rfl, rfl⟩
def a128 : AC := .seq (.ops false [] [⟨some 2, .box 50 6 1 true, [.t 0], none⟩, ⟨some 3, .box 123 7 1 true, [.t 1], none⟩, ⟨some 4, .p (.mov), [.c (.bool false)], none⟩]) (.seq (.ops false [] [⟨some 10, .p (.faddr 0), [.t 2], none⟩, ⟨some 11, .load 2 true, [.t 10], none⟩, ⟨some 12, .p (.faddr 0), [.t 3], none⟩, ⟨some 13, .load 2 true, [.t 12], none⟩, ⟨some 14, .call 96, [.t 11, .t 13], none⟩, ⟨some 9, .p (.mov), [.t 14], none⟩, ⟨some 15, .p (.ext 0), [.t 9], none⟩, ⟨some 16, .p (.ext 1), [.t 9], none⟩, ⟨some 5, .alloc 48 2 [.agg [.int .i64 0, .int .i64 0]], [], none⟩, ⟨none, .store 2 true, [.t 5, .t 15], none⟩, ⟨some 6, .p (.mov), [.t 16], none⟩]) (.seq (.ops false [] [⟨some 18, .p (.faddr 2), [.t 2], none⟩, ⟨some 19, .load 2 true, [.t 18], none⟩, ⟨some 20, .p (.faddr 2), [.t 3], none⟩, ⟨some 21, .load 2 true, [.t 20], none⟩, ⟨some 22, .call 96, [.t 19, .t 21], none⟩, ⟨some 17, .p (.mov), [.t 22], none⟩, ⟨some 23, .p (.ext 0), [.t 17], none⟩, ⟨some 24, .p (.ext 1), [.t 17], none⟩, ⟨some 7, .alloc 48 2 [.agg [.int .i64 0, .int .i64 0]], [], none⟩, ⟨none, .store 2 true, [.t 7, .t 23], none⟩, ⟨some 8, .p (.mov), [.t 24], none⟩]) (.seq (.ops false [] [⟨some 25, .p (.mov), [.t 6], none⟩, ⟨some 26, .p (.mov), [.t 25], none⟩, ⟨some 27, .p (.mov), [.t 8], some (26, true)⟩, ⟨some 28, .p (.pick), [.t 26, .t 27, .c (.bool false)], none⟩, ⟨some 29, .p (.mov), [.t 28], none⟩, ⟨some 30, .p (.faddr 4), [.t 2], some (29, true)⟩, ⟨some 31, .p (.faddr 1), [.t 30], some (29, true)⟩, ⟨some 32, .load 1 false, [.t 31], some (29, true)⟩, ⟨some 33, .p (.faddr 4), [.t 3], some (29, true)⟩, ⟨some 34, .load 1 false, [.t 33], some (29, true)⟩, ⟨some 35, .p (.binI .geq), [.t 32, .t 34], some (29, true)⟩, ⟨some 36, .p (.pick), [.t 29, .t 35, .c (.bool false)], none⟩, ⟨some 4, .p (.mov), [.t 36], none⟩]) (.ret))))
theorem c128 : FnC Try.prog 128 37 a128 [.tmp 4] := ⟨Try.call128, _, _, Try.func128, rfl, by kernel_rfl, by kernel_rfl, rfl⟩
namespace Wa
def mbE (a b : Bx) : Int := firstE [bxE a, bxE b]
def mnP (a b : Bx) : Prop := ((meB a b).yl ≤ (meB a b).yh ∧ (meB a b).zl ≤ (meB a b).zh) ∧ (meB a b).sl ≤ (meB a b).sh
instance (a b : Bx) : Decidable (mnP a b) := by unfold mnP; infer_instance
def mbV (a b : Bx) : AV := if mbE a b = 0 then (if mnP a b then .tup [eBx (meB a b), I 0] else .tup [eBx zBx, I 13]) else .tup [eBx zBx, I (mbE a b)]
theorem k_MeetOf (a b : Bx) : FOk P 26 [eBx a, eBx b] (mbV a b) := by
  have y1 := x_CheckBox a
  have y2 := x_CheckBox b
  by_cases h0 : mbE a b = 0
  · rw [mbV, if_pos h0]
    have h1 := h0
    unfold mbE at h1
    by_cases c1 : max a.yl b.yl ≤ min a.yh b.yh
    · by_cases c2 : max a.zl b.zl ≤ min a.zh b.zh
      · by_cases c3 : max a.sl b.sl ≤ min a.sh b.sh
        · rw [if_pos (show mnP a b from ⟨⟨c1, c2⟩, c3⟩)]
          refine c26.fok rfl (Cor.run (addC_good g_meet (addC_good g_first (addC_good g_CheckBox (noC_good _)))) (noHx_good _) hm ?_)
          simp +contextual -implicitDefEqProofs (maxSteps := 2000000) only [bg_eq, a26, y1, y2, x_first, y_first, x_meet, h1, c1, c2, c3, meB, not_true_eq_false, ruB, rh_no, Int.reduceLT, Int.reduceLE, Int.reduceAdd, Int.reduceSub, Int.reduceMul, Int.reduceNeg, Int.reduceToNat, Int.reduceEq, Int.reduceNe, Int.reduceTDiv, Int.reduceTMod, implies_true, putL, appN, appX, appC, Eng.Fi, reduceCtorEq, exists_eq_left', exists_eq_left, if_true, if_false, List.replicate, Nat.reduceAdd, Nat.reduceSub, Nat.reduceMul, Nat.reduceLeDiff, Nat.reduceLT, Nat.reduceEqDiff]
        · rw [if_neg (fun h : mnP a b => c3 h.2)]
          refine c26.fok rfl (Cor.run (addC_good g_meet (addC_good g_first (addC_good g_CheckBox (noC_good _)))) (noHx_good _) hm ?_)
          simp +contextual -implicitDefEqProofs (maxSteps := 2000000) only [bg_eq, a26, y1, y2, x_first, y_first, x_meet, h1, c1, c2, c3, zBx, not_true_eq_false, not_false_eq_true, ruB, rh_no, Int.reduceLT, Int.reduceLE, Int.reduceAdd, Int.reduceSub, Int.reduceMul, Int.reduceNeg, Int.reduceToNat, Int.reduceEq, Int.reduceNe, Int.reduceTDiv, Int.reduceTMod, implies_true, putL, appN, appX, appC, Eng.Fi, reduceCtorEq, exists_eq_left', exists_eq_left, if_true, if_false, List.replicate, Nat.reduceAdd, Nat.reduceSub, Nat.reduceMul, Nat.reduceLeDiff, Nat.reduceLT, Nat.reduceEqDiff]
      · rw [if_neg (fun h : mnP a b => c2 h.1.2)]
        refine c26.fok rfl (Cor.run (addC_good g_meet (addC_good g_first (addC_good g_CheckBox (noC_good _)))) (noHx_good _) hm ?_)
        simp +contextual -implicitDefEqProofs (maxSteps := 2000000) only [bg_eq, a26, y1, y2, x_first, y_first, x_meet, h1, c1, c2, zBx, not_true_eq_false, not_false_eq_true, ruB, rh_no, Int.reduceLT, Int.reduceLE, Int.reduceAdd, Int.reduceSub, Int.reduceMul, Int.reduceNeg, Int.reduceToNat, Int.reduceEq, Int.reduceNe, Int.reduceTDiv, Int.reduceTMod, implies_true, putL, appN, appX, appC, Eng.Fi, reduceCtorEq, exists_eq_left', exists_eq_left, if_true, if_false, List.replicate, Nat.reduceAdd, Nat.reduceSub, Nat.reduceMul, Nat.reduceLeDiff, Nat.reduceLT, Nat.reduceEqDiff]
    · rw [if_neg (fun h : mnP a b => c1 h.1.1)]
      refine c26.fok rfl (Cor.run (addC_good g_meet (addC_good g_first (addC_good g_CheckBox (noC_good _)))) (noHx_good _) hm ?_)
      simp +contextual -implicitDefEqProofs (maxSteps := 2000000) only [bg_eq, a26, y1, y2, x_first, y_first, x_meet, h1, c1, zBx, not_true_eq_false, not_false_eq_true, ruB, rh_no, Int.reduceLT, Int.reduceLE, Int.reduceAdd, Int.reduceSub, Int.reduceMul, Int.reduceNeg, Int.reduceToNat, Int.reduceEq, Int.reduceNe, Int.reduceTDiv, Int.reduceTMod, implies_true, putL, appN, appX, appC, Eng.Fi, reduceCtorEq, exists_eq_left', exists_eq_left, if_true, if_false, List.replicate, Nat.reduceAdd, Nat.reduceSub, Nat.reduceMul, Nat.reduceLeDiff, Nat.reduceLT, Nat.reduceEqDiff]
  · rw [mbV, if_neg h0]
    unfold mbE at h0 ⊢
    refine c26.fok rfl (Cor.run (addC_good g_meet (addC_good g_first (addC_good g_CheckBox (noC_good _)))) (noHx_good _) hm ?_)
    simp +contextual -implicitDefEqProofs (maxSteps := 2000000) only [bg_eq, a26, y1, y2, x_first, y_first, h0, zBx, not_false_eq_true, ruB, rh_no, Int.reduceLT, Int.reduceLE, Int.reduceAdd, Int.reduceSub, Int.reduceMul, Int.reduceNeg, Int.reduceToNat, Int.reduceEq, Int.reduceNe, Int.reduceTDiv, Int.reduceTMod, implies_true, putL, appN, appX, appC, Eng.Fi, reduceCtorEq, exists_eq_left', exists_eq_left, if_true, if_false, List.replicate, Nat.reduceAdd, Nat.reduceSub, Nat.reduceMul, Nat.reduceLeDiff, Nat.reduceLT, Nat.reduceEqDiff]
def cf_MeetOf : List AV → Option AV
  | [.agg [.int .i64 a_yl, .int .i64 a_yh, .int .i64 a_zl, .int .i64 a_zh, .int .i64 a_sl, .int .i64 a_sh], .agg [.int .i64 b_yl, .int .i64 b_yh, .int .i64 b_zl, .int .i64 b_zh, .int .i64 b_sl, .int .i64 b_sh]] => some (mbV (⟨a_yl, a_yh, a_zl, a_zh, a_sl, a_sh⟩ : Bx) (⟨b_yl, b_yh, b_zl, b_zh, b_sl, b_sh⟩ : Bx))
  | _ => none
theorem g_MeetOf : Fn P 26 cf_MeetOf := fun args v hh => by
  unfold cf_MeetOf at hh; split at hh
  · have hk := Option.some.inj hh; subst hk; exact k_MeetOf ⟨_, _, _, _, _, _⟩ ⟨_, _, _, _, _, _⟩
  · cases hh
theorem x_MeetOf (a : Bx) (b : Bx) : cf_MeetOf [.agg [I a.yl, I a.yh, I a.zl, I a.zh, I a.sl, I a.sh], .agg [I b.yl, I b.yh, I b.zl, I b.zh, I b.sl, I b.sh]] = some (mbV a b) := by
  rfl
def toP (b : Bx) (c : Co) : Prop := (max b.yl c.yl ≤ min b.yh c.yh ∧ max b.zl c.zl ≤ min b.zh c.zh) ∧ c.lim ≤ b.sh
instance (b : Bx) (c : Co) : Decidable (toP b c) := by unfold toP; infer_instance
theorem k_touches (b : Bx) (c : Co) : FOk P 128 [eBx b, eCo c] (.bool (decide (toP b c))) := by
  refine c128.fok rfl (Cor.run (addC_good g_meet (noC_good _)) (noHx_good _) hm ?_)
  simp +contextual -implicitDefEqProofs (maxSteps := 2000000) only [bg_eq, a128, x_meet, toP, ruB, rh_no, Int.reduceLT, Int.reduceLE, Int.reduceAdd, Int.reduceSub, Int.reduceMul, Int.reduceNeg, Int.reduceToNat, Int.reduceEq, Int.reduceNe, Int.reduceTDiv, Int.reduceTMod, implies_true, putL, appN, appX, appC, Eng.Fi, reduceCtorEq, exists_eq_left', exists_eq_left, if_true, if_false, List.replicate, Nat.reduceAdd, Nat.reduceSub, Nat.reduceMul, Nat.reduceLeDiff, Nat.reduceLT, Nat.reduceEqDiff]
def cf_touches : List AV → Option AV
  | [.agg [.int .i64 b_yl, .int .i64 b_yh, .int .i64 b_zl, .int .i64 b_zh, .int .i64 b_sl, .int .i64 b_sh], .agg [.int .i64 c_yl, .int .i64 c_yh, .int .i64 c_zl, .int .i64 c_zh, .int .i64 c_lim, .int .i64 c_fr, .int .i64 c_to]] => some (.bool (decide (toP (⟨b_yl, b_yh, b_zl, b_zh, b_sl, b_sh⟩ : Bx) (⟨c_yl, c_yh, c_zl, c_zh, c_lim, c_fr, c_to⟩ : Co))))
  | _ => none
theorem g_touches : Fn P 128 cf_touches := fun args v hh => by
  unfold cf_touches at hh; split at hh
  · have hk := Option.some.inj hh; subst hk; exact k_touches ⟨_, _, _, _, _, _⟩ ⟨_, _, _, _, _, _, _⟩
  · cases hh
theorem x_touches (b : Bx) (c : Co) : cf_touches [.agg [I b.yl, I b.yh, I b.zl, I b.zh, I b.sl, I b.sh], .agg [I c.yl, I c.yh, I c.zl, I c.zh, I c.lim, I c.fr, I c.to]] = some (.bool (decide (toP b c))) := by
  rfl
def ocE (b d : Bx) (c : Co) : Int := firstE [bxE b, dfE d, coE c]
theorem k_openCorridor (b d : Bx) (c : Co) : FOk P 126 [eBx b, eBx d, eCo c] (I (ocE b d c)) := by
  have y1 := x_CheckBox b
  have y2 := x_driftErr d
  have y3 := x_corridorErr c
  refine c126.fok rfl (Cor.run (addC_good g_first (addC_good g_corridorErr (addC_good g_driftErr (addC_good g_CheckBox (noC_good _))))) (noHx_good _) hm ?_)
  simp +contextual -implicitDefEqProofs (maxSteps := 2000000) only [bg_eq, a126, y1, y2, y3, x_first, y_first, ocE, ruB, rh_no, Int.reduceLT, Int.reduceLE, Int.reduceAdd, Int.reduceSub, Int.reduceMul, Int.reduceNeg, Int.reduceToNat, Int.reduceEq, Int.reduceNe, Int.reduceTDiv, Int.reduceTMod, implies_true, putL, appN, appX, appC, Eng.Fi, reduceCtorEq, exists_eq_left', exists_eq_left, if_true, if_false, List.replicate, Nat.reduceAdd, Nat.reduceSub, Nat.reduceMul, Nat.reduceLeDiff, Nat.reduceLT, Nat.reduceEqDiff]
def cf_openCorridor : List AV → Option AV
  | [.agg [.int .i64 b_yl, .int .i64 b_yh, .int .i64 b_zl, .int .i64 b_zh, .int .i64 b_sl, .int .i64 b_sh], .agg [.int .i64 d_yl, .int .i64 d_yh, .int .i64 d_zl, .int .i64 d_zh, .int .i64 d_sl, .int .i64 d_sh], .agg [.int .i64 c_yl, .int .i64 c_yh, .int .i64 c_zl, .int .i64 c_zh, .int .i64 c_lim, .int .i64 c_fr, .int .i64 c_to]] => some (I (ocE (⟨b_yl, b_yh, b_zl, b_zh, b_sl, b_sh⟩ : Bx) (⟨d_yl, d_yh, d_zl, d_zh, d_sl, d_sh⟩ : Bx) (⟨c_yl, c_yh, c_zl, c_zh, c_lim, c_fr, c_to⟩ : Co)))
  | _ => none
theorem g_openCorridor : Fn P 126 cf_openCorridor := fun args v hh => by
  unfold cf_openCorridor at hh; split at hh
  · have hk := Option.some.inj hh; subst hk; exact k_openCorridor ⟨_, _, _, _, _, _⟩ ⟨_, _, _, _, _, _⟩ ⟨_, _, _, _, _, _, _⟩
  · cases hh
theorem x_openCorridor (b : Bx) (d : Bx) (c : Co) : cf_openCorridor [.agg [I b.yl, I b.yh, I b.zl, I b.zh, I b.sl, I b.sh], .agg [I d.yl, I d.yh, I d.zl, I d.zh, I d.sl, I d.sh], .agg [I c.yl, I c.yh, I c.zl, I c.zh, I c.lim, I c.fr, I c.to]] = some (I (ocE b d c)) := by
  rfl
theorem k_rwithin2 (a b lo hi : Int) : FOk P 97 [eRn ⟨a, b⟩, I lo, I hi] (.bool (decide (inR lo hi a b))) := by
  refine c97.fok rfl (Cor.run (addC_good g_Within (noC_good _)) (noHx_good _) hm ?_)
  simp +contextual -implicitDefEqProofs (maxSteps := 2000000) only [bg_eq, a97, x_Within, inR, ruB, rh_no, Int.reduceLT, Int.reduceLE, Int.reduceAdd, Int.reduceSub, Int.reduceMul, Int.reduceNeg, Int.reduceToNat, Int.reduceEq, Int.reduceNe, Int.reduceTDiv, Int.reduceTMod, implies_true, putL, appN, appX, appC, Eng.Fi, reduceCtorEq, exists_eq_left', exists_eq_left, if_true, if_false, List.replicate, Nat.reduceAdd, Nat.reduceSub, Nat.reduceMul, Nat.reduceLeDiff, Nat.reduceLT, Nat.reduceEqDiff]
def cf_rwithin2 : List AV → Option AV
  | [.agg [.int .i64 a, .int .i64 b], .int .i64 lo, .int .i64 hi] => some (.bool (decide (inR lo hi a b)))
  | _ => none
theorem g_rwithin2 : Fn P 97 cf_rwithin2 := fun args v h => by
  unfold cf_rwithin2 at h; split at h
  · have h := Option.some.inj h; subst h; exact k_rwithin2 _ _ _ _
  · cases h
theorem x_rwithin2 (a b lo hi : Int) : cf_rwithin2 [.agg [.int .i64 a, .int .i64 b], .int .i64 lo, .int .i64 hi] = some (.bool (decide (inR lo hi a b))) := rfl
theorem k_rmeet (a b c d : Int) : FOk P 98 [eRn ⟨a, b⟩, eRn ⟨c, d⟩] (.tup [eRn ⟨max a c, min b d⟩, .bool (decide (max a c ≤ min b d))]) := by
  refine c98.fok rfl (Cor.run (noC_good _) (noHx_good _) hm ?_)
  simp +contextual -implicitDefEqProofs (maxSteps := 2000000) only [bg_eq, a98, ruB, rh_no, Int.reduceLT, Int.reduceLE, Int.reduceAdd, Int.reduceSub, Int.reduceMul, Int.reduceNeg, Int.reduceToNat, Int.reduceEq, Int.reduceNe, Int.reduceTDiv, Int.reduceTMod, implies_true, putL, appN, appX, appC, Eng.Fi, reduceCtorEq, exists_eq_left', exists_eq_left, if_true, if_false, List.replicate, Nat.reduceAdd, Nat.reduceSub, Nat.reduceMul, Nat.reduceLeDiff, Nat.reduceLT, Nat.reduceEqDiff]
def cf_rmeet : List AV → Option AV
  | [.agg [.int .i64 a, .int .i64 b], .agg [.int .i64 c, .int .i64 d]] => some (.tup [eRn ⟨max a c, min b d⟩, .bool (decide (max a c ≤ min b d))])
  | _ => none
theorem g_rmeet : Fn P 98 cf_rmeet := fun args v h => by
  unfold cf_rmeet at h; split at h
  · have h := Option.some.inj h; subst h; exact k_rmeet _ _ _ _
  · cases h
theorem x_rmeet (a b c d : Int) : cf_rmeet [.agg [.int .i64 a, .int .i64 b], .agg [.int .i64 c, .int .i64 d]] = some (.tup [eRn ⟨max a c, min b d⟩, .bool (decide (max a c ≤ min b d))]) := rfl
end Wa
