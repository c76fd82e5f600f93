import Derived.Test.YtabkbhpeeefmgaaEngS9
import Derived.Test.YtabkbhpeeefmgaaW8
open Go Go.Proofs Eng
set_option maxRecDepth 100000
set_option linter.unusedSimpArgs false
set_option linter.unusedVariables false
def a70 : AC := .seq (.ops false [] [⟨some 2, .box 50 6 1 true, [.t 0], none⟩, ⟨some 3, .box 46 3 1 true, [.t 1], none⟩, ⟨some 4, .p (.mov), [.c (.bool false)], none⟩]) (.seq (.ops false [] [⟨some 5, .p (.faddr 0), [.t 3], none⟩, ⟨some 6, .p (.faddr 0), [.t 5], none⟩, ⟨some 7, .load 1 false, [.t 6], none⟩, ⟨some 8, .p (.faddr 0), [.t 2], none⟩, ⟨some 9, .p (.faddr 0), [.t 8], none⟩, ⟨some 10, .load 1 false, [.t 9], none⟩, ⟨some 11, .p (.faddr 0), [.t 2], none⟩, ⟨some 12, .p (.faddr 1), [.t 11], none⟩, ⟨some 13, .load 1 false, [.t 12], none⟩, ⟨some 14, .call 20, [.t 7, .t 10, .t 13], none⟩, ⟨some 15, .p (.mov), [.t 14], none⟩, ⟨some 16, .p (.faddr 0), [.t 3], some (15, true)⟩, ⟨some 17, .p (.faddr 1), [.t 16], some (15, true)⟩, ⟨some 18, .load 1 false, [.t 17], some (15, true)⟩, ⟨some 19, .p (.faddr 2), [.t 2], some (15, true)⟩, ⟨some 20, .p (.faddr 0), [.t 19], some (15, true)⟩, ⟨some 21, .load 1 false, [.t 20], some (15, true)⟩, ⟨some 22, .p (.faddr 2), [.t 2], some (15, true)⟩, ⟨some 23, .p (.faddr 1), [.t 22], some (15, true)⟩, ⟨some 24, .load 1 false, [.t 23], some (15, true)⟩, ⟨some 25, .call 20, [.t 18, .t 21, .t 24], some (15, true)⟩, ⟨some 26, .p (.pick), [.t 15, .t 25, .c (.bool false)], none⟩, ⟨some 27, .p (.mov), [.t 26], none⟩, ⟨some 28, .p (.faddr 2), [.t 3], some (27, true)⟩, ⟨some 29, .load 1 false, [.t 28], some (27, true)⟩, ⟨some 30, .p (.faddr 4), [.t 2], some (27, true)⟩, ⟨some 31, .p (.faddr 0), [.t 30], some (27, true)⟩, ⟨some 32, .load 1 false, [.t 31], some (27, true)⟩, ⟨some 33, .p (.faddr 4), [.t 2], some (27, true)⟩, ⟨some 34, .p (.faddr 1), [.t 33], some (27, true)⟩, ⟨some 35, .load 1 false, [.t 34], some (27, true)⟩, ⟨some 36, .call 20, [.t 29, .t 32, .t 35], some (27, true)⟩, ⟨some 37, .p (.pick), [.t 27, .t 36, .c (.bool false)], none⟩, ⟨some 4, .p (.mov), [.t 37], none⟩]) (.ret))
theorem c70 : FnC Try.prog 70 38 a70 [.tmp 4] := ⟨Try.call70, _, _, Try.func70, rfl, by kernel_rfl, by kernel_rfl, rfl⟩
def a97 : AC := .seq (.ops false [] [⟨some 3, .box 48 2 1 true, [.t 0], none⟩, ⟨some 6, .p (.mov), [.c (.bool false)], none⟩]) (.seq (.ops false [] [⟨some 7, .p (.faddr 0), [.t 3], none⟩, ⟨some 8, .load 1 false, [.t 7], none⟩, ⟨some 9, .p (.mov), [.t 1], none⟩, ⟨some 10, .p (.mov), [.t 2], none⟩, ⟨some 11, .call 20, [.t 8, .t 9, .t 10], none⟩, ⟨some 12, .p (.mov), [.t 11], none⟩, ⟨some 13, .p (.faddr 1), [.t 3], some (12, true)⟩, ⟨some 14, .load 1 false, [.t 13], some (12, true)⟩, ⟨some 15, .p (.mov), [.t 1], some (12, true)⟩, ⟨some 16, .p (.mov), [.t 2], some (12, true)⟩, ⟨some 17, .call 20, [.t 14, .t 15, .t 16], some (12, true)⟩, ⟨some 18, .p (.pick), [.t 12, .t 17, .c (.bool false)], none⟩, ⟨some 6, .p (.mov), [.t 18], none⟩]) (.ret))
theorem c97 : FnC Try.prog 97 19 a97 [.tmp 6] := ⟨Try.call97, _, _, Try.func97, rfl, by kernel_rfl, by kernel_rfl, rfl⟩
def a126 : AC := .seq (.ops false [] [⟨some 3, .box 50 6 1 true, [.t 0], none⟩, ⟨some 4, .box 52 6 1 true, [.t 1], none⟩, ⟨some 5, .box 123 7 1 true, [.t 2], none⟩, ⟨some 6, .p (.mov), [.c (.int .i64 0)], none⟩]) (.seq (.ops true [] [⟨some 7, .load 6 true, [.t 3], none⟩, ⟨some 8, .call 24, [.t 7], none⟩, ⟨some 9, .load 6 true, [.t 4], none⟩, ⟨some 10, .call 93, [.t 9], none⟩, ⟨some 11, .load 7 true, [.t 5], none⟩, ⟨some 12, .call 155, [.t 11], none⟩, ⟨some 13, .fbs 1, [.t 8, .t 10, .t 12], none⟩, ⟨some 14, .call 79, [.t 13], none⟩, ⟨some 6, .p (.mov), [.t 14], none⟩]) (.ret))
theorem c126 : FnC Try.prog 126 15 a126 [.tmp 6] := ⟨Try.call126, _, _, Try.func126, rfl, by kernel_rfl, by kernel_rfl, rfl⟩
def a128 : AC := .seq (.ops false [] [⟨some 2, .box 50 6 1 true, [.t 0], none⟩, ⟨some 3, .box 123 7 1 true, [.t 1], none⟩, ⟨some 4, .p (.mov), [.c (.bool false)], none⟩]) (.seq (.ops false [] [⟨some 10, .p (.faddr 0), [.t 2], none⟩, ⟨some 11, .load 2 true, [.t 10], none⟩, ⟨some 12, .p (.faddr 0), [.t 3], none⟩, ⟨some 13, .load 2 true, [.t 12], none⟩, ⟨some 14, .call 96, [.t 11, .t 13], none⟩, ⟨some 9, .p (.mov), [.t 14], none⟩, ⟨some 15, .p (.ext 0), [.t 9], none⟩, ⟨some 16, .p (.ext 1), [.t 9], none⟩, ⟨some 5, .alloc 48 2 [.agg [.int .i64 0, .int .i64 0]], [], none⟩, ⟨none, .store 2 true, [.t 5, .t 15], none⟩, ⟨some 6, .p (.mov), [.t 16], none⟩]) (.seq (.ops false [] [⟨some 18, .p (.faddr 2), [.t 2], none⟩, ⟨some 19, .load 2 true, [.t 18], none⟩, ⟨some 20, .p (.faddr 2), [.t 3], none⟩, ⟨some 21, .load 2 true, [.t 20], none⟩, ⟨some 22, .call 96, [.t 19, .t 21], none⟩, ⟨some 17, .p (.mov), [.t 22], none⟩, ⟨some 23, .p (.ext 0), [.t 17], none⟩, ⟨some 24, .p (.ext 1), [.t 17], none⟩, ⟨some 7, .alloc 48 2 [.agg [.int .i64 0, .int .i64 0]], [], none⟩, ⟨none, .store 2 true, [.t 7, .t 23], none⟩, ⟨some 8, .p (.mov), [.t 24], none⟩]) (.seq (.ops false [] [⟨some 25, .p (.mov), [.t 6], none⟩, ⟨some 26, .p (.mov), [.t 25], none⟩, ⟨some 27, .p (.mov), [.t 8], some (26, true)⟩, ⟨some 28, .p (.pick), [.t 26, .t 27, .c (.bool false)], none⟩, ⟨some 29, .p (.mov), [.t 28], none⟩, ⟨some 30, .p (.faddr 4), [.t 2], some (29, true)⟩, ⟨some 31, .p (.faddr 1), [.t 30], some (29, true)⟩, ⟨some 32, .load 1 false, [.t 31], some (29, true)⟩, ⟨some 33, .p (.faddr 4), [.t 3], some (29, true)⟩, ⟨some 34, .load 1 false, [.t 33], some (29, true)⟩, ⟨some 35, .p (.binI .geq), [.t 32, .t 34], some (29, true)⟩, ⟨some 36, .p (.pick), [.t 29, .t 35, .c (.bool false)], none⟩, ⟨some 4, .p (.mov), [.t 36], none⟩]) (.ret))))
theorem c128 : FnC Try.prog 128 37 a128 [.tmp 4] := ⟨Try.call128, _, _, Try.func128, rfl, by kernel_rfl, by kernel_rfl, rfl⟩
def a132 : AC := .seq (.ops false [] [⟨some 5, .box 48 2 1 true, [.t 2], none⟩, ⟨some 6, .p (.mov), [.c (.bool false)], none⟩]) (.seq (.seq (.ops false [] [⟨some 7, .p (.mov), [.t 1], none⟩, ⟨some 8, .p (.binI .eql), [.t 7, .c (.int .i64 0)], none⟩]) (.cond (.t 8) (.seq (.ops false [] [⟨some 9, .p (.faddr 1), [.t 5], none⟩, ⟨some 10, .load 1 false, [.t 9], none⟩, ⟨some 11, .p (.mov), [.t 0], none⟩, ⟨some 12, .p (.binI .geq), [.t 10, .t 11], none⟩, ⟨some 6, .p (.mov), [.t 12], none⟩]) (.ret)) (.skip))) (.seq (.ops false [] [⟨some 13, .p (.mov), [.t 1], none⟩, ⟨some 14, .p (.binI .gtr), [.t 13, .c (.int .i64 0)], none⟩, ⟨some 15, .p (.mov), [.t 14], none⟩, ⟨some 16, .p (.mov), [.t 1], some (15, true)⟩, ⟨some 17, .p (.mov), [.t 0], some (15, true)⟩, ⟨some 18, .p (.faddr 1), [.t 5], some (15, true)⟩, ⟨some 19, .load 1 false, [.t 18], some (15, true)⟩, ⟨some 20, .p (.binI .sub), [.t 17, .t 19], some (15, true)⟩, ⟨some 21, .p (.mov), [.t 0], some (15, true)⟩, ⟨some 22, .p (.faddr 0), [.t 5], some (15, true)⟩, ⟨some 23, .load 1 false, [.t 22], some (15, true)⟩, ⟨some 24, .p (.binI .sub), [.t 21, .t 23], some (15, true)⟩, ⟨some 25, .call 103, [.t 16, .t 20, .t 24], some (15, true)⟩, ⟨some 26, .p (.pick), [.t 15, .t 25, .c (.bool false)], none⟩, ⟨some 6, .p (.mov), [.t 26], none⟩]) (.ret)))
theorem c132 : FnC Try.prog 132 27 a132 [.tmp 6] := ⟨Try.call132, _, _, Try.func132, rfl, by kernel_rfl, by kernel_rfl, rfl⟩
namespace Wa
def toP (b : Bx) (c : Co) : Prop := (max b.yl c.yl ≤ min b.yh c.yh ∧ max b.zl c.zl ≤ min b.zh c.zh) ∧ c.lim ≤ b.sh
instance (b : Bx) (c : Co) : Decidable (toP b c) := by unfold toP; infer_instance
theorem k_touches (b : Bx) (c : Co) : FOk P 128 [eBx b, eCo c] (.bool (decide (toP b c))) := by
  refine c128.fok rfl (Cor.run (addC_good g_meet (noC_good _)) (noHx_good _) hm ?_)
  simp +contextual -implicitDefEqProofs (maxSteps := 2000000) only [bg_eq, a128, x_meet, toP, ruB, rh_no, Int.reduceLT, Int.reduceLE, Int.reduceAdd, Int.reduceSub, Int.reduceMul, Int.reduceNeg, Int.reduceToNat, Int.reduceEq, Int.reduceNe, Int.reduceTDiv, Int.reduceTMod, implies_true, putL, appN, appX, appC, Eng.Fi, reduceCtorEq, exists_eq_left', exists_eq_left, if_true, if_false, List.replicate, Nat.reduceAdd, Nat.reduceSub, Nat.reduceMul, Nat.reduceLeDiff, Nat.reduceLT, Nat.reduceEqDiff]
def cf_touches : List AV → Option AV
  | [.agg [.int .i64 b_yl, .int .i64 b_yh, .int .i64 b_zl, .int .i64 b_zh, .int .i64 b_sl, .int .i64 b_sh], .agg [.int .i64 c_yl, .int .i64 c_yh, .int .i64 c_zl, .int .i64 c_zh, .int .i64 c_lim, .int .i64 c_fr, .int .i64 c_to]] => some (.bool (decide (toP (⟨b_yl, b_yh, b_zl, b_zh, b_sl, b_sh⟩ : Bx) (⟨c_yl, c_yh, c_zl, c_zh, c_lim, c_fr, c_to⟩ : Co))))
  | _ => none
theorem g_touches : Fn P 128 cf_touches := fun args v hh => by
  unfold cf_touches at hh; split at hh
  · have hk := Option.some.inj hh; subst hk; exact k_touches ⟨_, _, _, _, _, _⟩ ⟨_, _, _, _, _, _, _⟩
  · cases hh
theorem x_touches (b : Bx) (c : Co) : cf_touches [.agg [I b.yl, I b.yh, I b.zl, I b.zh, I b.sl, I b.sh], .agg [I c.yl, I c.yh, I c.zl, I c.zh, I c.lim, I c.fr, I c.to]] = some (.bool (decide (toP b c))) := by
  rfl
def ocE (b d : Bx) (c : Co) : Int := firstE [bxE b, dfE d, coE c]
theorem k_openCorridor (b d : Bx) (c : Co) : FOk P 126 [eBx b, eBx d, eCo c] (I (ocE b d c)) := by
  have y1 := x_CheckBox b
  have y2 := x_driftErr d
  have y3 := x_corridorErr c
  refine c126.fok rfl (Cor.run (addC_good g_first (addC_good g_corridorErr (addC_good g_driftErr (addC_good g_CheckBox (noC_good _))))) (noHx_good _) hm ?_)
  simp +contextual -implicitDefEqProofs (maxSteps := 2000000) only [bg_eq, a126, y1, y2, y3, x_first, y_first, ocE, ruB, rh_no, Int.reduceLT, Int.reduceLE, Int.reduceAdd, Int.reduceSub, Int.reduceMul, Int.reduceNeg, Int.reduceToNat, Int.reduceEq, Int.reduceNe, Int.reduceTDiv, Int.reduceTMod, implies_true, putL, appN, appX, appC, Eng.Fi, reduceCtorEq, exists_eq_left', exists_eq_left, if_true, if_false, List.replicate, Nat.reduceAdd, Nat.reduceSub, Nat.reduceMul, Nat.reduceLeDiff, Nat.reduceLT, Nat.reduceEqDiff]
def cf_openCorridor : List AV → Option AV
  | [.agg [.int .i64 b_yl, .int .i64 b_yh, .int .i64 b_zl, .int .i64 b_zh, .int .i64 b_sl, .int .i64 b_sh], .agg [.int .i64 d_yl, .int .i64 d_yh, .int .i64 d_zl, .int .i64 d_zh, .int .i64 d_sl, .int .i64 d_sh], .agg [.int .i64 c_yl, .int .i64 c_yh, .int .i64 c_zl, .int .i64 c_zh, .int .i64 c_lim, .int .i64 c_fr, .int .i64 c_to]] => some (I (ocE (⟨b_yl, b_yh, b_zl, b_zh, b_sl, b_sh⟩ : Bx) (⟨d_yl, d_yh, d_zl, d_zh, d_sl, d_sh⟩ : Bx) (⟨c_yl, c_yh, c_zl, c_zh, c_lim, c_fr, c_to⟩ : Co)))
  | _ => none
theorem g_openCorridor : Fn P 126 cf_openCorridor := fun args v hh => by
  unfold cf_openCorridor at hh; split at hh
  · have hk := Option.some.inj hh; subst hk; exact k_openCorridor ⟨_, _, _, _, _, _⟩ ⟨_, _, _, _, _, _⟩ ⟨_, _, _, _, _, _, _⟩
  · cases hh
theorem x_openCorridor (b : Bx) (d : Bx) (c : Co) : cf_openCorridor [.agg [I b.yl, I b.yh, I b.zl, I b.zh, I b.sl, I b.sh], .agg [I d.yl, I d.yh, I d.zl, I d.zh, I d.sl, I d.sh], .agg [I c.yl, I c.yh, I c.zl, I c.zh, I c.lim, I c.fr, I c.to]] = some (I (ocE b d c)) := by
  rfl
def smB (a lo hi : Int) : Prop := (-100000000 ≤ a ∧ a ≤ 100000000) ∧ (-100000000 ≤ lo ∧ lo ≤ 100000000) ∧ (-100000000 ≤ hi ∧ hi ≤ 100000000)
instance (a lo hi : Int) : Decidable (smB a lo hi) := by unfold smB; infer_instance
theorem k_falls (a b lo hi : Int) (h : smB a lo hi) : FOk P 132 [I a, I b, eRn ⟨lo, hi⟩] (.bool (decide (faP a b lo hi))) := by
  unfold smB at h
  have w1 : IntKind.wrap .i64 (a - hi) = a - hi := wrap64 (by omega) (by omega)
  have w2 : IntKind.wrap .i64 (a - lo) = a - lo := wrap64 (by omega) (by omega)
  unfold faP
  by_cases hb : b = 0
  · have hb' := eq_true hb
    simp only [hb', if_true]
    refine c132.fok rfl (Cor.run (addC_good g_within (noC_good _)) (noHx_good _) hm ?_)
    simp +contextual -implicitDefEqProofs (maxSteps := 2000000) only [bg_eq, a132, w1, w2, x_within, hb', ruB, rh_no, Int.reduceLT, Int.reduceLE, Int.reduceAdd, Int.reduceSub, Int.reduceMul, Int.reduceNeg, Int.reduceToNat, Int.reduceEq, Int.reduceNe, Int.reduceTDiv, Int.reduceTMod, implies_true, putL, appN, appX, appC, Eng.Fi, reduceCtorEq, exists_eq_left', exists_eq_left, if_true, if_false, List.replicate, Nat.reduceAdd, Nat.reduceSub, Nat.reduceMul, Nat.reduceLeDiff, Nat.reduceLT, Nat.reduceEqDiff]
  · have hb' := eq_false hb
    simp only [hb', if_false]
    refine c132.fok rfl (Cor.run (addC_good g_within (noC_good _)) (noHx_good _) hm ?_)
    simp +contextual -implicitDefEqProofs (maxSteps := 2000000) only [bg_eq, a132, w1, w2, x_within, hb', ruB, rh_no, Int.reduceLT, Int.reduceLE, Int.reduceAdd, Int.reduceSub, Int.reduceMul, Int.reduceNeg, Int.reduceToNat, Int.reduceEq, Int.reduceNe, Int.reduceTDiv, Int.reduceTMod, implies_true, putL, appN, appX, appC, Eng.Fi, reduceCtorEq, exists_eq_left', exists_eq_left, if_true, if_false, List.replicate, Nat.reduceAdd, Nat.reduceSub, Nat.reduceMul, Nat.reduceLeDiff, Nat.reduceLT, Nat.reduceEqDiff]
def cf_falls : List AV → Option AV
  | [.int .i64 a, .int .i64 b, .agg [.int .i64 lo, .int .i64 hi]] => if smB a lo hi then some (.bool (decide (faP a b lo hi))) else none
  | _ => none
theorem g_falls : Fn P 132 cf_falls := fun args v hh => by
  unfold cf_falls at hh; split at hh
  · split at hh
    · rename_i hc; have hk := Option.some.inj hh; subst hk; exact k_falls _ _ _ _ hc
    · cases hh
  · cases hh
theorem x_falls (a : Int) (b : Int) (lo : Int) (hi : Int) (hc : (smB a lo hi) = True) : cf_falls [.int .i64 a, .int .i64 b, .agg [.int .i64 lo, .int .i64 hi]] = some (.bool (decide (faP a b lo hi))) := by
  exact if_pos (by rw [hc]; trivial)
theorem k_rwithin2 (a b lo hi : Int) : FOk P 97 [eRn ⟨a, b⟩, I lo, I hi] (.bool (decide (inR lo hi a b))) := by
  refine c97.fok rfl (Cor.run (addC_good g_Within (noC_good _)) (noHx_good _) hm ?_)
  simp +contextual -implicitDefEqProofs (maxSteps := 2000000) only [bg_eq, a97, x_Within, inR, ruB, rh_no, Int.reduceLT, Int.reduceLE, Int.reduceAdd, Int.reduceSub, Int.reduceMul, Int.reduceNeg, Int.reduceToNat, Int.reduceEq, Int.reduceNe, Int.reduceTDiv, Int.reduceTMod, implies_true, putL, appN, appX, appC, Eng.Fi, reduceCtorEq, exists_eq_left', exists_eq_left, if_true, if_false, List.replicate, Nat.reduceAdd, Nat.reduceSub, Nat.reduceMul, Nat.reduceLeDiff, Nat.reduceLT, Nat.reduceEqDiff]
def cf_rwithin2 : List AV → Option AV
  | [.agg [.int .i64 a, .int .i64 b], .int .i64 lo, .int .i64 hi] => some (.bool (decide (inR lo hi a b)))
  | _ => none
theorem g_rwithin2 : Fn P 97 cf_rwithin2 := fun args v h => by
  unfold cf_rwithin2 at h; split at h
  · have h := Option.some.inj h; subst h; exact k_rwithin2 _ _ _ _
  · cases h
theorem x_rwithin2 (a b lo hi : Int) : cf_rwithin2 [.agg [.int .i64 a, .int .i64 b], .int .i64 lo, .int .i64 hi] = some (.bool (decide (inR lo hi a b))) := rfl
theorem k_rHolds (b : Bx) (v : Vo) : FOk P 70 [eBx b, eVo v] (.bool (decide (hoP b v))) := by
  refine c70.fok rfl (Cor.run (addC_good g_Within (noC_good _)) (noHx_good _) hm ?_)
  simp +contextual -implicitDefEqProofs (maxSteps := 2000000) only [bg_eq, a70, x_Within, hoP, ruB, rh_no, Int.reduceLT, Int.reduceLE, Int.reduceAdd, Int.reduceSub, Int.reduceMul, Int.reduceNeg, Int.reduceToNat, Int.reduceEq, Int.reduceNe, Int.reduceTDiv, Int.reduceTMod, implies_true, putL, appN, appX, appC, Eng.Fi, reduceCtorEq, exists_eq_left', exists_eq_left, if_true, if_false, List.replicate, Nat.reduceAdd, Nat.reduceSub, Nat.reduceMul, Nat.reduceLeDiff, Nat.reduceLT, Nat.reduceEqDiff]
def cf_rHolds : List AV → Option AV
  | [.agg [.int .i64 b_yl, .int .i64 b_yh, .int .i64 b_zl, .int .i64 b_zh, .int .i64 b_sl, .int .i64 b_sh], .agg [.int .i64 v_y, .int .i64 v_z, .int .i64 v_s]] => some (.bool (decide (hoP (⟨b_yl, b_yh, b_zl, b_zh, b_sl, b_sh⟩ : Bx) (⟨v_y, v_z, v_s⟩ : Vo))))
  | _ => none
theorem g_rHolds : Fn P 70 cf_rHolds := fun args v hh => by
  unfold cf_rHolds at hh; split at hh
  · have hk := Option.some.inj hh; subst hk; exact k_rHolds ⟨_, _, _, _, _, _⟩ ⟨_, _, _⟩
  · cases hh
theorem x_rHolds (b : Bx) (v : Vo) : cf_rHolds [.agg [I b.yl, I b.yh, I b.zl, I b.zh, I b.sl, I b.sh], .agg [I v.y, I v.z, I v.s]] = some (.bool (decide (hoP b v))) := by
  rfl
end Wa
