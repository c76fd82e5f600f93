import Derived.Test.YtabkbhpeeefmgaaEngS9
import Derived.Test.YtabkbhpeeefmgaaW8
open Go Go.Proofs Eng
set_option maxRecDepth 100000
set_option linter.unusedSimpArgs false
set_option linter.unusedVariables false
def a126 : AC := .seq (.ops false [] [⟨some 3, .box 50 6 1 true, [.t 0], none⟩, ⟨some 4, .box 52 6 1 true, [.t 1], none⟩, ⟨some 5, .box 123 7 1 true, [.t 2], none⟩, ⟨some 6, .p (.mov), [.c (.int .i64 0)], none⟩]) (.seq (.ops true [] [⟨some 7, .load 6 true, [.t 3], none⟩, ⟨some 8, .call 24, [.t 7], none⟩, ⟨some 9, .load 6 true, [.t 4], none⟩, ⟨some 10, .call 93, [.t 9], none⟩, ⟨some 11, .load 7 true, [.t 5], none⟩, ⟨some 12, .call 155, [.t 11], none⟩, ⟨some 13, .fbs 1, [.t 8, .t 10, .t 12], none⟩, ⟨some 14, .call 79, [.t 13], none⟩, ⟨some 6, .p (.mov), [.t 14], none⟩]) (.ret))
theorem c126 : FnC Try.prog 126 15 a126 [.tmp 6] := ⟨Try.call126, _, _, Try.func126, rfl, by kernel_rfl, by kernel_rfl, rfl⟩
def a128 : AC := .seq (.ops false [] [⟨some 2, .box 50 6 1 true, [.t 0], none⟩, ⟨some 3, .box 123 7 1 true, [.t 1], none⟩, ⟨some 4, .p (.mov), [.c (.bool false)], none⟩]) (.seq (.ops false [] [⟨some 10, .p (.faddr 0), [.t 2], none⟩, ⟨some 11, .load 2 true, [.t 10], none⟩, ⟨some 12, .p (.faddr 0), [.t 3], none⟩, ⟨some 13, .load 2 true, [.t 12], none⟩, ⟨some 14, .call 96, [.t 11, .t 13], none⟩, ⟨some 9, .p (.mov), [.t 14], none⟩, ⟨some 15, .p (.ext 0), [.t 9], none⟩, ⟨some 16, .p (.ext 1), [.t 9], none⟩, ⟨some 5, .alloc 48 2 [.agg [.int .i64 0, .int .i64 0]], [], none⟩, ⟨none, .store 2 true, [.t 5, .t 15], none⟩, ⟨some 6, .p (.mov), [.t 16], none⟩]) (.seq (.ops false [] [⟨some 18, .p (.faddr 2), [.t 2], none⟩, ⟨some 19, .load 2 true, [.t 18], none⟩, ⟨some 20, .p (.faddr 2), [.t 3], none⟩, ⟨some 21, .load 2 true, [.t 20], none⟩, ⟨some 22, .call 96, [.t 19, .t 21], none⟩, ⟨some 17, .p (.mov), [.t 22], none⟩, ⟨some 23, .p (.ext 0), [.t 17], none⟩, ⟨some 24, .p (.ext 1), [.t 17], none⟩, ⟨some 7, .alloc 48 2 [.agg [.int .i64 0, .int .i64 0]], [], none⟩, ⟨none, .store 2 true, [.t 7, .t 23], none⟩, ⟨some 8, .p (.mov), [.t 24], none⟩]) (.seq (.ops false [] [⟨some 25, .p (.mov), [.t 6], none⟩, ⟨some 26, .p (.mov), [.t 25], none⟩, ⟨some 27, .p (.mov), [.t 8], some (26, true)⟩, ⟨some 28, .p (.pick), [.t 26, .t 27, .c (.bool false)], none⟩, ⟨some 29, .p (.mov), [.t 28], none⟩, ⟨some 30, .p (.faddr 4), [.t 2], some (29, true)⟩, ⟨some 31, .p (.faddr 1), [.t 30], some (29, true)⟩, ⟨some 32, .load 1 false, [.t 31], some (29, true)⟩, ⟨some 33, .p (.faddr 4), [.t 3], some (29, true)⟩, ⟨some 34, .load 1 false, [.t 33], some (29, true)⟩, ⟨some 35, .p (.binI .geq), [.t 32, .t 34], some (29, true)⟩, ⟨some 36, .p (.pick), [.t 29, .t 35, .c (.bool false)], none⟩, ⟨some 4, .p (.mov), [.t 36], none⟩]) (.ret))))
theorem c128 : FnC Try.prog 128 37 a128 [.tmp 4] := ⟨Try.call128, _, _, Try.func128, rfl, by kernel_rfl, by kernel_rfl, rfl⟩
namespace Wa
def toP (b : Bx) (c : Co) : Prop := (max b.yl c.yl ≤ min b.yh c.yh ∧ max b.zl c.zl ≤ min b.zh c.zh) ∧ c.lim ≤ b.sh
instance (b : Bx) (c : Co) : Decidable (toP b c) := by unfold toP; infer_instance
theorem k_touches (b : Bx) (c : Co) : FOk P 128 [eBx b, eCo c] (.bool (decide (toP b c))) := by
  refine c128.fok rfl (Cor.run (addC_good g_meet (noC_good _)) (noHx_good _) hm ?_)
  simp +contextual -implicitDefEqProofs (maxSteps := 2000000) only [bg_eq, a128, x_meet, toP, ruB, rh_no, Int.reduceLT, Int.reduceLE, Int.reduceAdd, Int.reduceSub, Int.reduceMul, Int.reduceNeg, Int.reduceToNat, Int.reduceEq, Int.reduceNe, Int.reduceTDiv, Int.reduceTMod, implies_true, putL, appN, appX, appC, Eng.Fi, reduceCtorEq, exists_eq_left', exists_eq_left, if_true, if_false, List.replicate, Nat.reduceAdd, Nat.reduceSub, Nat.reduceMul, Nat.reduceLeDiff, Nat.reduceLT, Nat.reduceEqDiff]
def cf_touches : List AV → Option AV
  | [.agg [.int .i64 b_yl, .int .i64 b_yh, .int .i64 b_zl, .int .i64 b_zh, .int .i64 b_sl, .int .i64 b_sh], .agg [.int .i64 c_yl, .int .i64 c_yh, .int .i64 c_zl, .int .i64 c_zh, .int .i64 c_lim, .int .i64 c_fr, .int .i64 c_to]] => some (.bool (decide (toP (⟨b_yl, b_yh, b_zl, b_zh, b_sl, b_sh⟩ : Bx) (⟨c_yl, c_yh, c_zl, c_zh, c_lim, c_fr, c_to⟩ : Co))))
  | _ => none
theorem g_touches : Fn P 128 cf_touches := fun args v hh => by
  unfold cf_touches at hh; split at hh
  · have hk := Option.some.inj hh; subst hk; exact k_touches ⟨_, _, _, _, _, _⟩ ⟨_, _, _, _, _, _, _⟩
  · cases hh
theorem x_touches (b : Bx) (c : Co) : cf_touches [.agg [I b.yl, I b.yh, I b.zl, I b.zh, I b.sl, I b.sh], .agg [I c.yl, I c.yh, I c.zl, I c.zh, I c.lim, I c.fr, I c.to]] = some (.bool (decide (toP b c))) := by
  rfl
def ocE (b d : Bx) (c : Co) : Int := firstE [bxE b, dfE d, coE c]
theorem k_openCorridor (b d : Bx) (c : Co) : FOk P 126 [eBx b, eBx d, eCo c] (I (ocE b d c)) := by
  have y1 := x_CheckBox b
  have y2 := x_driftErr d
  have y3 := x_corridorErr c
  refine c126.fok rfl (Cor.run (addC_good g_first (addC_good g_corridorErr (addC_good g_driftErr (addC_good g_CheckBox (noC_good _))))) (noHx_good _) hm ?_)
  simp +contextual -implicitDefEqProofs (maxSteps := 2000000) only [bg_eq, a126, y1, y2, y3, x_first, y_first, ocE, ruB, rh_no, Int.reduceLT, Int.reduceLE, Int.reduceAdd, Int.reduceSub, Int.reduceMul, Int.reduceNeg, Int.reduceToNat, Int.reduceEq, Int.reduceNe, Int.reduceTDiv, Int.reduceTMod, implies_true, putL, appN, appX, appC, Eng.Fi, reduceCtorEq, exists_eq_left', exists_eq_left, if_true, if_false, List.replicate, Nat.reduceAdd, Nat.reduceSub, Nat.reduceMul, Nat.reduceLeDiff, Nat.reduceLT, Nat.reduceEqDiff]
def cf_openCorridor : List AV → Option AV
  | [.agg [.int .i64 b_yl, .int .i64 b_yh, .int .i64 b_zl, .int .i64 b_zh, .int .i64 b_sl, .int .i64 b_sh], .agg [.int .i64 d_yl, .int .i64 d_yh, .int .i64 d_zl, .int .i64 d_zh, .int .i64 d_sl, .int .i64 d_sh], .agg [.int .i64 c_yl, .int .i64 c_yh, .int .i64 c_zl, .int .i64 c_zh, .int .i64 c_lim, .int .i64 c_fr, .int .i64 c_to]] => some (I (ocE (⟨b_yl, b_yh, b_zl, b_zh, b_sl, b_sh⟩ : Bx) (⟨d_yl, d_yh, d_zl, d_zh, d_sl, d_sh⟩ : Bx) (⟨c_yl, c_yh, c_zl, c_zh, c_lim, c_fr, c_to⟩ : Co)))
  | _ => none
theorem g_openCorridor : Fn P 126 cf_openCorridor := fun args v hh => by
  unfold cf_openCorridor at hh; split at hh
  · have hk := Option.some.inj hh; subst hk; exact k_openCorridor ⟨_, _, _, _, _, _⟩ ⟨_, _, _, _, _, _⟩ ⟨_, _, _, _, _, _, _⟩
  · cases hh
theorem x_openCorridor (b : Bx) (d : Bx) (c : Co) : cf_openCorridor [.agg [I b.yl, I b.yh, I b.zl, I b.zh, I b.sl, I b.sh], .agg [I d.yl, I d.yh, I d.zl, I d.zh, I d.sl, I d.sh], .agg [I c.yl, I c.yh, I c.zl, I c.zh, I c.lim, I c.fr, I c.to]] = some (I (ocE b d c)) := by
  rfl
end Wa
