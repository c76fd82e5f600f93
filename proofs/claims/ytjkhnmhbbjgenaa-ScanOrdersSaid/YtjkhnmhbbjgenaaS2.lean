import Derived.Test.YtjkhnmhbbjgenaaEngS9
import Derived.Test.YtjkhnmhbbjgenaaS1
open Go Go.Proofs Eng
set_option maxRecDepth 100000
set_option linter.unusedSimpArgs false
set_option linter.unusedVariables false
def a44 : AC := .seq (.ops false [] [⟨some 1, .box 37 2 1 true, [.t 0], none⟩, ⟨some 2, .p (.mov), [.c (.int .i64 0)], none⟩]) (.seq (.seq (.ops false [] [⟨some 3, .p (.faddr 0), [.t 1], none⟩, ⟨some 4, .load 1 false, [.t 3], none⟩, ⟨some 5, .call 38, [.t 4, .c (.int .i64 0), .c (.int .i64 359)], none⟩, ⟨some 6, .p (.notB), [.t 5], none⟩, ⟨some 7, .p (.mov), [.t 6], none⟩, ⟨some 8, .p (.faddr 1), [.t 1], some (7, false)⟩, ⟨some 9, .load 1 false, [.t 8], some (7, false)⟩, ⟨some 10, .call 38, [.t 9, .c (.int .i64 0), .c (.int .i64 90)], some (7, false)⟩, ⟨some 11, .p (.notB), [.t 10], some (7, false)⟩, ⟨some 12, .p (.pick), [.t 7, .c (.bool true), .t 11], none⟩]) (.cond (.t 12) (.seq (.ops false [] [⟨some 2, .p (.mov), [.c (.int .i64 2)], none⟩]) (.ret)) (.skip))) (.seq (.ops false [] [⟨some 2, .p (.mov), [.c (.int .i64 0)], none⟩]) (.ret)))
theorem c44 : FnC Try.prog 44 13 a44 [.tmp 2] := ⟨Try.call44, _, _, Try.func44, rfl, by kernel_rfl, by kernel_rfl, rfl⟩
def a91 : AC := .seq (.ops false [] [⟨some 1, .box 37 2 1 true, [.t 0], none⟩, ⟨some 2, .p (.mov), [.c (.int .i64 0)], none⟩]) (.seq (.ops false [] [⟨some 3, .p (.faddr 0), [.t 1], none⟩, ⟨some 4, .load 1 false, [.t 3], none⟩, ⟨some 5, .call 92, [.t 4], none⟩, ⟨some 6, .p (.mov), [.t 5], none⟩, ⟨some 7, .p (.faddr 1), [.t 1], some (6, true)⟩, ⟨some 8, .load 1 false, [.t 7], some (6, true)⟩, ⟨some 9, .call 93, [.t 8], some (6, true)⟩, ⟨some 10, .p (.pick), [.t 6, .t 9, .c (.bool false)], none⟩, ⟨some 11, .call 79, [.t 10, .c (.int .i64 2)], none⟩, ⟨some 2, .p (.mov), [.t 11], none⟩]) (.ret))
theorem c91 : FnC Try.prog 91 12 a91 [.tmp 2] := ⟨Try.call91, _, _, Try.func91, rfl, by kernel_rfl, by kernel_rfl, rfl⟩
def a92 : AC := .seq (.ops false [] [⟨some 2, .p (.mov), [.c (.bool false)], none⟩]) (.seq (.ops false [] [⟨some 3, .p (.mov), [.t 0], none⟩, ⟨some 4, .call 87, [.t 3, .c (.int .i64 0), .c (.int .i64 359)], none⟩, ⟨some 2, .p (.mov), [.t 4], none⟩]) (.ret))
theorem c92 : FnC Try.prog 92 5 a92 [.tmp 2] := ⟨Try.call92, _, _, Try.func92, rfl, by kernel_rfl, by kernel_rfl, rfl⟩
def a93 : AC := .seq (.ops false [] [⟨some 2, .p (.mov), [.c (.bool false)], none⟩]) (.seq (.ops false [] [⟨some 3, .p (.mov), [.t 0], none⟩, ⟨some 4, .call 87, [.t 3, .c (.int .i64 0), .c (.int .i64 90)], none⟩, ⟨some 2, .p (.mov), [.t 4], none⟩]) (.ret))
theorem c93 : FnC Try.prog 93 5 a93 [.tmp 2] := ⟨Try.call93, _, _, Try.func93, rfl, by kernel_rfl, by kernel_rfl, rfl⟩
def a94 : AC := .seq (.ops false [] [⟨some 2, .box 42 7 1 true, [.t 0], none⟩, ⟨some 3, .box 37 2 1 true, [.t 1], none⟩, ⟨some 4, .p (.mov), [.c (.bool false)], none⟩]) (.seq (.ops false [] [⟨some 5, .p (.faddr 6), [.t 2], none⟩, ⟨some 6, .load 1 false, [.t 5], none⟩, ⟨some 7, .p (.mkfn 122 0), [.t 3], none⟩, ⟨some 8, .call 121, [.t 6, .t 7], none⟩, ⟨some 4, .p (.mov), [.t 8], none⟩]) (.ret))
theorem c94 : FnC Try.prog 94 9 a94 [.tmp 4] := ⟨Try.call94, _, _, Try.func94, rfl, by kernel_rfl, by kernel_rfl, rfl⟩
def a118 : AC := .seq (.ops false [] [⟨some 4, .p (.mov), [.c (.int .i64 0)], none⟩]) (.seq (.ops false [] [⟨some 5, .p (.mov), [.t 1], none⟩, ⟨some 6, .p (.mov), [.t 0], none⟩, ⟨some 7, .p (.binI .sub), [.t 5, .t 6], none⟩, ⟨some 8, .p (.binI .add), [.t 7, .c (.int .i64 360)], none⟩, ⟨some 9, .p (.binI .rem), [.t 8, .c (.int .i64 360)], none⟩, ⟨some 4, .p (.mov), [.t 9], none⟩]) (.ret))
theorem c118 : FnC Try.prog 118 10 a118 [.tmp 4] := ⟨Try.call118, _, _, Try.func118, rfl, by kernel_rfl, by kernel_rfl, rfl⟩
def a121 : AC := .seq (.ops false [] [⟨some 4, .p (.mov), [.c (.bool false)], none⟩]) (.seq (.ops false [] [⟨some 5, .p (.mov), [.t 0], none⟩, ⟨some 6, .p (.mov), [.t 1], none⟩, ⟨some 7, .call 133, [.t 5, .t 6], none⟩, ⟨some 8, .p (.binI .geq), [.t 7, .c (.int .i64 0)], none⟩, ⟨some 4, .p (.mov), [.t 8], none⟩]) (.ret))
theorem c121 : FnC Try.prog 121 9 a121 [.tmp 4] := ⟨Try.call121, _, _, Try.func121, rfl, by kernel_rfl, by kernel_rfl, rfl⟩
def a122 : AC := .seq (.ops false [] [⟨some 2, .box 121 4 1 true, [.t 0], none⟩, ⟨some 3, .p (.mov), [.c (.bool false)], none⟩]) (.seq (.ops false [] [⟨some 4, .load 4 true, [.t 2], none⟩, ⟨some 5, .load 2 true, [.t 1], none⟩, ⟨some 6, .call 123, [.t 4, .t 5], none⟩, ⟨some 3, .p (.mov), [.t 6], none⟩]) (.ret))
theorem c122 : FnC Try.prog 122 7 a122 [.tmp 3] := ⟨Try.call122, _, _, Try.func122, rfl, by kernel_rfl, by kernel_rfl, rfl⟩
def a123 : AC := .seq (.ops false [] [⟨some 2, .box 121 4 1 true, [.t 0], none⟩, ⟨some 3, .box 37 2 1 true, [.t 1], none⟩, ⟨some 4, .p (.mov), [.c (.bool false)], none⟩]) (.seq (.ops true [] [⟨some 5, .p (.faddr 0), [.t 2], none⟩, ⟨some 6, .p (.faddr 0), [.t 5], none⟩, ⟨some 7, .load 1 false, [.t 6], none⟩, ⟨some 8, .p (.faddr 0), [.t 3], none⟩, ⟨some 9, .load 1 false, [.t 8], none⟩, ⟨some 10, .call 118, [.t 7, .t 9], none⟩, ⟨some 11, .p (.faddr 0), [.t 2], none⟩, ⟨some 12, .p (.faddr 0), [.t 11], none⟩, ⟨some 13, .load 1 false, [.t 12], none⟩, ⟨some 14, .p (.faddr 0), [.t 2], none⟩, ⟨some 15, .p (.faddr 1), [.t 14], none⟩, ⟨some 16, .load 1 false, [.t 15], none⟩, ⟨some 17, .call 118, [.t 13, .t 16], none⟩, ⟨some 18, .p (.binI .leq), [.t 10, .t 17], none⟩, ⟨some 19, .p (.mov), [.t 18], none⟩, ⟨some 20, .p (.faddr 1), [.t 3], some (19, true)⟩, ⟨some 21, .load 1 false, [.t 20], some (19, true)⟩, ⟨some 22, .p (.faddr 2), [.t 2], some (19, true)⟩, ⟨some 23, .p (.faddr 0), [.t 22], some (19, true)⟩, ⟨some 24, .load 1 false, [.t 23], some (19, true)⟩, ⟨some 25, .p (.faddr 2), [.t 2], some (19, true)⟩, ⟨some 26, .p (.faddr 1), [.t 25], some (19, true)⟩, ⟨some 27, .load 1 false, [.t 26], some (19, true)⟩, ⟨some 28, .call 87, [.t 21, .t 24, .t 27], some (19, true)⟩, ⟨some 29, .p (.pick), [.t 19, .t 28, .c (.bool false)], none⟩, ⟨some 4, .p (.mov), [.t 29], none⟩]) (.ret))
theorem c123 : FnC Try.prog 123 30 a123 [.tmp 4] := ⟨Try.call123, _, _, Try.func123, rfl, by kernel_rfl, by kernel_rfl, rfl⟩
def a133 : AC := .seq (.ops false [] [⟨some 4, .p (.mov), [.c (.int .i64 0)], none⟩]) (.seq (.seq (.ops false [] [⟨some 6, .p (.mov), [.t 0], none⟩, ⟨some 7, .p (.lenS), [.t 6], none⟩, ⟨some 8, .p (.mov), [.c (.int .i64 0)], none⟩]) (.block 0 (.loop (.seq (.ops false [] [⟨some 9, .p (.binI .lss), [.t 8, .t 7], none⟩]) (.seq (.cond (.t 9) (.skip) (.exit 0)) (.seq (.block 1 (.seq (.ops false [] [⟨some 10, .p (.mov), [.t 8], none⟩, ⟨some 5, .p (.mov), [.t 10], none⟩]) (.seq (.ops false [] [⟨some 11, .p (.mov), [.t 1], none⟩, ⟨some 12, .p (.mov), [.t 0], none⟩, ⟨some 13, .p (.mov), [.t 5], none⟩, ⟨some 14, .p (.iaddrS 4), [.t 12, .t 13], none⟩, ⟨some 15, .load 4 true, [.t 14], none⟩, ⟨some 16, .callv, [.t 11, .t 15], none⟩]) (.cond (.t 16) (.seq (.ops false [] [⟨some 17, .p (.mov), [.t 5], none⟩, ⟨some 4, .p (.mov), [.t 17], none⟩]) (.ret)) (.skip))))) (.ops false [] [⟨some 18, .p (.binI .add), [.t 8, .c (.int .i64 1)], none⟩, ⟨some 8, .p (.mov), [.t 18], none⟩]))))))) (.seq (.ops false [] [⟨some 4, .p (.mov), [.c (.int .i64 (-1))], none⟩]) (.ret)))
theorem c133 : FnC Try.prog 133 19 a133 [.tmp 4] := ⟨Try.call133, _, _, Try.func133, rfl, by kernel_rfl, by kernel_rfl, rfl⟩
namespace Sc
structure Dr where
  az : Int
  el : Int
  deriving DecidableEq
abbrev eDr (x : Dr) : AV := .agg [I x.az, I x.el]
def dDr : AV → Option Dr
  | .agg [.int .i64 az, .int .i64 el] => some ⟨az, el⟩
  | _ => none
theorem dDr_e (x : Dr) : dDr (eDr x) = some x := rfl
theorem dDr_inv (v : AV) (x : Dr) (h : dDr v = some x) : v = eDr x := by
  unfold dDr at h
  split at h
  · cases h; rfl
  · cases h
theorem free_Dr (φ : Nat → Fate) (l : List Dr) : subs φ (l.map eDr) = l.map eDr := subs_mapE φ _ (fun _ => rfl) l
structure Se where
  alo : Int
  ahi : Int
  elo : Int
  ehi : Int
  deriving DecidableEq
abbrev eSe (x : Se) : AV := .agg [I x.alo, I x.ahi, I x.elo, I x.ehi]
def dSe : AV → Option Se
  | .agg [.int .i64 alo, .int .i64 ahi, .int .i64 elo, .int .i64 ehi] => some ⟨alo, ahi, elo, ehi⟩
  | _ => none
theorem dSe_e (x : Se) : dSe (eSe x) = some x := rfl
theorem dSe_inv (v : AV) (x : Se) (h : dSe v = some x) : v = eSe x := by
  unfold dSe at h
  split at h
  · cases h; rfl
  · cases h
theorem free_Se (φ : Nat → Fate) (l : List Se) : subs φ (l.map eSe) = l.map eSe := subs_mapE φ _ (fun _ => rfl) l
def azR (n : Int) : Prop := 0 ≤ n ∧ n ≤ 359
def elR (n : Int) : Prop := 0 ≤ n ∧ n ≤ 90
instance (n : Int) : Decidable (azR n) := by unfold azR; infer_instance
instance (n : Int) : Decidable (elR n) := by unfold elR; infer_instance
def drR (d : Dr) : Prop := azR d.az ∧ elR d.el
instance (d : Dr) : Decidable (drR d) := by unfold drR; infer_instance
def drE (d : Dr) : Int := unl (drR d) 2
theorem drE_zero {d : Dr} (h : drE d = 0) : drR d := unl_zero h (by decide)
theorem k_isAzimuth (n : Int) : FOk P 92 [I n] (.bool (decide (azR n))) := by
  refine c92.fok rfl (Cor.run (addC_good g_within (noC_good _)) (noHx_good _) hm ?_)
  simp +contextual -implicitDefEqProofs (maxSteps := 2000000) only [bg_eq, a92, x_within, azR, ruB, rh_no, Int.reduceLT, Int.reduceLE, Int.reduceAdd, Int.reduceSub, Int.reduceMul, Int.reduceNeg, Int.reduceToNat, Int.reduceEq, Int.reduceNe, Int.reduceTDiv, Int.reduceTMod, implies_true, putL, appN, appX, appC, Eng.Fi, reduceCtorEq, exists_eq_left', exists_eq_left, if_true, if_false, List.replicate, Nat.reduceAdd, Nat.reduceSub, Nat.reduceMul, Nat.reduceLeDiff, Nat.reduceLT, Nat.reduceEqDiff]
def cf_isAzimuth : List AV → Option AV
  | [.int .i64 n] => some (.bool (decide (azR n)))
  | _ => none
theorem g_isAzimuth : Fn P 92 cf_isAzimuth := fun args v h => by
  unfold cf_isAzimuth at h; split at h
  · have h := Option.some.inj h; subst h; exact k_isAzimuth _
  · cases h
theorem x_isAzimuth (n : Int) : cf_isAzimuth [.int .i64 n] = some (.bool (decide (azR n))) := rfl
theorem k_isElevation (n : Int) : FOk P 93 [I n] (.bool (decide (elR n))) := by
  refine c93.fok rfl (Cor.run (addC_good g_within (noC_good _)) (noHx_good _) hm ?_)
  simp +contextual -implicitDefEqProofs (maxSteps := 2000000) only [bg_eq, a93, x_within, elR, ruB, rh_no, Int.reduceLT, Int.reduceLE, Int.reduceAdd, Int.reduceSub, Int.reduceMul, Int.reduceNeg, Int.reduceToNat, Int.reduceEq, Int.reduceNe, Int.reduceTDiv, Int.reduceTMod, implies_true, putL, appN, appX, appC, Eng.Fi, reduceCtorEq, exists_eq_left', exists_eq_left, if_true, if_false, List.replicate, Nat.reduceAdd, Nat.reduceSub, Nat.reduceMul, Nat.reduceLeDiff, Nat.reduceLT, Nat.reduceEqDiff]
def cf_isElevation : List AV → Option AV
  | [.int .i64 n] => some (.bool (decide (elR n)))
  | _ => none
theorem g_isElevation : Fn P 93 cf_isElevation := fun args v h => by
  unfold cf_isElevation at h; split at h
  · have h := Option.some.inj h; subst h; exact k_isElevation _
  · cases h
theorem x_isElevation (n : Int) : cf_isElevation [.int .i64 n] = some (.bool (decide (elR n))) := rfl
theorem k_directionErr (a e : Int) : FOk P 91 [eDr ⟨a, e⟩] (I (drE ⟨a, e⟩)) := by
  refine c91.fok rfl (Cor.run (addC_good g_unless (addC_good g_isElevation (addC_good g_isAzimuth (noC_good _)))) (noHx_good _) hm ?_)
  simp +contextual -implicitDefEqProofs (maxSteps := 2000000) only [bg_eq, a91, x_isAzimuth, x_isElevation, x_unless, drE, drR, ruB, rh_no, Int.reduceLT, Int.reduceLE, Int.reduceAdd, Int.reduceSub, Int.reduceMul, Int.reduceNeg, Int.reduceToNat, Int.reduceEq, Int.reduceNe, Int.reduceTDiv, Int.reduceTMod, implies_true, putL, appN, appX, appC, Eng.Fi, reduceCtorEq, exists_eq_left', exists_eq_left, if_true, if_false, List.replicate, Nat.reduceAdd, Nat.reduceSub, Nat.reduceMul, Nat.reduceLeDiff, Nat.reduceLT, Nat.reduceEqDiff]
def cf_directionErr : List AV → Option AV
  | [.agg [.int .i64 a, .int .i64 e]] => some (.int .i64 (drE ⟨a, e⟩))
  | _ => none
theorem g_directionErr : Fn P 91 cf_directionErr := fun args v h => by
  unfold cf_directionErr at h; split at h
  · have h := Option.some.inj h; subst h; exact k_directionErr _ _
  · cases h
theorem x_directionErr (a e : Int) : cf_directionErr [.agg [.int .i64 a, .int .i64 e]] = some (.int .i64 (drE ⟨a, e⟩)) := rfl
theorem k_rDirectionErr (a e : Int) : FOk P 44 [eDr ⟨a, e⟩] (I (drE ⟨a, e⟩)) := by
  refine c44.fok rfl (Cor.run (addC_good g_Within (noC_good _)) (noHx_good _) hm ?_)
  simp +contextual -implicitDefEqProofs (maxSteps := 2000000) only [bg_eq, a44, x_Within, ruB, rh_no, Int.reduceLT, Int.reduceLE, Int.reduceAdd, Int.reduceSub, Int.reduceMul, Int.reduceNeg, Int.reduceToNat, Int.reduceEq, Int.reduceNe, Int.reduceTDiv, Int.reduceTMod, implies_true, putL, appN, appX, appC, Eng.Fi, reduceCtorEq, exists_eq_left', exists_eq_left, if_true, if_false, List.replicate, Nat.reduceAdd, Nat.reduceSub, Nat.reduceMul, Nat.reduceLeDiff, Nat.reduceLT, Nat.reduceEqDiff]
  refine ⟨fun h => ?_, fun h => ?_⟩
  · rw [drE, unl_f]; unfold drR azR elR; simp only; omega
  · rw [drE, unl_t]; unfold drR azR elR; simp only; omega
def cf_rDirectionErr : List AV → Option AV
  | [.agg [.int .i64 a, .int .i64 e]] => some (.int .i64 (drE ⟨a, e⟩))
  | _ => none
theorem g_rDirectionErr : Fn P 44 cf_rDirectionErr := fun args v h => by
  unfold cf_rDirectionErr at h; split at h
  · have h := Option.some.inj h; subst h; exact k_rDirectionErr _ _
  · cases h
theorem x_rDirectionErr (a e : Int) : cf_rDirectionErr [.agg [.int .i64 a, .int .i64 e]] = some (.int .i64 (drE ⟨a, e⟩)) := rfl
/-- so many steps upwards -/
def upw (a b : Int) : Int := (b - a + 360) % 360
theorem k_upwards (a b : Int) (h : -1 ≤ b - a + 360 ∧ b - a + 360 ≤ 100000 ∧ -100000 ≤ b - a) (h0 : 0 ≤ b - a + 360) : FOk P 118 [I a, I b] (I (upw a b)) := by
  have e1 : IntKind.wrap .i64 (b - a) = b - a := wrap64 (by omega) (by omega)
  have e2 : IntKind.wrap .i64 (b - a + 360) = b - a + 360 := wrap64 (by omega) (by omega)
  have e3 : (b - a + 360).tmod 360 = upw a b := Int.tmod_eq_emod_of_nonneg h0
  refine c118.fok rfl (Cor.run (noC_good _) (noHx_good _) hm ?_)
  simp +contextual -implicitDefEqProofs (maxSteps := 2000000) only [bg_eq, a118, e1, e2, e3, ruB, rh_no, Int.reduceLT, Int.reduceLE, Int.reduceAdd, Int.reduceSub, Int.reduceMul, Int.reduceNeg, Int.reduceToNat, Int.reduceEq, Int.reduceNe, Int.reduceTDiv, Int.reduceTMod, implies_true, putL, appN, appX, appC, Eng.Fi, reduceCtorEq, exists_eq_left', exists_eq_left, if_true, if_false, List.replicate, Nat.reduceAdd, Nat.reduceSub, Nat.reduceMul, Nat.reduceLeDiff, Nat.reduceLT, Nat.reduceEqDiff]
def upB (a b : Int) : Prop := 0 ≤ b - a + 360 ∧ b - a + 360 ≤ 100000
instance (a b : Int) : Decidable (upB a b) := by unfold upB; infer_instance
def cf_upwards : List AV → Option AV
  | [.int .i64 a, .int .i64 b] => if upB a b then some (I (upw a b)) else none
  | _ => none
theorem g_upwards : Fn P 118 cf_upwards := fun args v h => by
  unfold cf_upwards at h; split at h
  · split at h
    · rename_i hc; cases h; unfold upB at hc; exact k_upwards _ _ (by omega) hc.1
    · cases h
  · cases h
theorem x_upwards (a b : Int) (h : upB a b = True) : cf_upwards [.int .i64 a, .int .i64 b] = some (.int .i64 (upw a b)) := by simp only [cf_upwards, h, if_true]
theorem upw_bd (a b : Int) : 0 ≤ upw a b ∧ upw a b ≤ 359 := by unfold upw; omega
def seR (s : Se) : Prop := ((azR s.alo ∧ azR s.ahi) ∧ elR s.elo) ∧ elR s.ehi
instance (s : Se) : Decidable (seR s) := by unfold seR; infer_instance
def seE (s : Se) : Int := firstE [unl (seR s) 2, unl (s.elo ≤ s.ehi) 9]
def hasP (s : Se) (d : Dr) : Prop := upw s.alo d.az ≤ upw s.alo s.ahi ∧ (s.elo ≤ d.el ∧ d.el ≤ s.ehi)
instance (s : Se) (d : Dr) : Decidable (hasP s d) := by unfold hasP; infer_instance
theorem k_has (s : Se) (d : Dr) (hs : seR s) (hd : drR d) : FOk P 123 [eSe s, eDr d] (.bool (decide (hasP s d))) := by
  unfold seR azR at hs
  unfold drR azR at hd
  have u1 : upB s.alo d.az = True := by unfold upB; simp only [eq_iff_iff, iff_true]; omega
  have u2 : upB s.alo s.ahi = True := by unfold upB; simp only [eq_iff_iff, iff_true]; omega
  refine c123.fok rfl (Cor.run (addC_good g_within (addC_good g_upwards (noC_good _))) (noHx_good _) hm ?_)
  simp +contextual -implicitDefEqProofs (maxSteps := 2000000) only [bg_eq, a123, x_upwards, x_within, u1, u2, hasP, ruB, rh_no, Int.reduceLT, Int.reduceLE, Int.reduceAdd, Int.reduceSub, Int.reduceMul, Int.reduceNeg, Int.reduceToNat, Int.reduceEq, Int.reduceNe, Int.reduceTDiv, Int.reduceTMod, implies_true, putL, appN, appX, appC, Eng.Fi, reduceCtorEq, exists_eq_left', exists_eq_left, if_true, if_false, List.replicate, Nat.reduceAdd, Nat.reduceSub, Nat.reduceMul, Nat.reduceLeDiff, Nat.reduceLT, Nat.reduceEqDiff]
def cf_has : List AV → Option AV
  | [.agg [.int .i64 a, .int .i64 b, .int .i64 c, .int .i64 d], .agg [.int .i64 e, .int .i64 f]] => if seR ⟨a, b, c, d⟩ ∧ drR ⟨e, f⟩ then some (.bool (decide (hasP ⟨a, b, c, d⟩ ⟨e, f⟩))) else none
  | _ => none
theorem g_has : Fn P 123 cf_has := fun args v h => by
  unfold cf_has at h; split at h
  · split at h
    · rename_i hc; cases h; exact k_has ⟨_, _, _, _⟩ ⟨_, _⟩ hc.1 hc.2
    · cases h
  · cases h
theorem x_has (s : Se) (d : Dr) (h : (seR s ∧ drR d) = True) : cf_has [.agg [I s.alo, I s.ahi, I s.elo, I s.ehi], .agg [I d.az, I d.el]] = some (.bool (decide (hasP s d))) := by
  show (if seR s ∧ drR d then _ else _) = _
  rw [if_pos (by rw [h]; trivial)]
theorem k_isReserved1 (s : Se) (d : Dr) (hs : seR s) (hd : drR d) : FOk P 122 [eSe s, .vp [eDr d] 0 0] (.bool (decide (hasP s d))) := by
  have h : (seR s ∧ drR d) = True := by simp only [hs, hd, and_self]
  refine c122.fok rfl (Cor.run (addC_good g_has (noC_good _)) (noHx_good _) hm ?_)
  simp +contextual -implicitDefEqProofs (maxSteps := 2000000) only [bg_eq, a122, x_has, h, ruB, rh_no, Int.reduceLT, Int.reduceLE, Int.reduceAdd, Int.reduceSub, Int.reduceMul, Int.reduceNeg, Int.reduceToNat, Int.reduceEq, Int.reduceNe, Int.reduceTDiv, Int.reduceTMod, implies_true, putL, appN, appX, appC, Eng.Fi, reduceCtorEq, exists_eq_left', exists_eq_left, if_true, if_false, List.replicate, Nat.reduceAdd, Nat.reduceSub, Nat.reduceMul, Nat.reduceLeDiff, Nat.reduceLT, Nat.reduceEqDiff]
def cf_isReserved1 : List AV → Option AV
  | [.agg [.int .i64 a, .int .i64 b, .int .i64 c, .int .i64 d], .vp [.agg [.int .i64 e, .int .i64 f]] 0 0] => if seR ⟨a, b, c, d⟩ ∧ drR ⟨e, f⟩ then some (.bool (decide (hasP ⟨a, b, c, d⟩ ⟨e, f⟩))) else none
  | _ => none
theorem g_isReserved1 : Fn P 122 cf_isReserved1 := fun args v h => by
  unfold cf_isReserved1 at h; split at h
  · split at h
    · rename_i hc; cases h; exact k_isReserved1 ⟨_, _, _, _⟩ ⟨_, _⟩ hc.1 hc.2
    · cases h
  · cases h
theorem x_isReserved1 (s : Se) (d : Dr) (h : (seR s ∧ drR d) = True) : cf_isReserved1 [.agg [I s.alo, I s.ahi, I s.elo, I s.ehi], .vp [.agg [I d.az, I d.el]] 0 0] = some (.bool (decide (hasP s d))) := by
  show (if seR s ∧ drR d then _ else _) = _
  rw [if_pos (by rw [h]; trivial)]
/-- is it reserved? -/
def resv (l : List Se) (d : Dr) : Bool := l.any fun s => decide (hasP s d)
def idx1 (d : Dr) : Nat → List Se → Int
  | _, [] => -1
  | n, s :: r => if hasP s d then n else idx1 d (n + 1) r
theorem idx1_resv (d : Dr) : ∀ (l : List Se) (n : Nat), decide (0 ≤ idx1 d n l) = resv l d
  | [], n => by simp [idx1, resv]
  | s :: r, n => by
    rw [idx1, resv, List.any_cons]
    split
    · rename_i h; simp [h]
    · rename_i h
      rw [idx1_resv d r (n + 1)]
      simp [h, resv]
def okR (l : List Se) (d : Dr) : Prop := (l.length ≤ 1000 ∧ ∀ s ∈ l, seR s) ∧ drR d
instance (l : List Se) (d : Dr) : Decidable (okR l d) := by unfold okR; infer_instance
def S133 (l : List Se) (d : Dr) (n : Nat) : AState := ⟨[.vs (l.map eSe), .fn 122 [] [.vp [eDr d] 0 0], .any, .any, .any, .any, .vs (l.map eSe), I l.length, I n, .any, .any, .any, .any, .any, .any, .any, .any, .any, .any], [], 0⟩
theorem k_IndexFuncS (l : List Se) (d : Dr) (h : okR l d) : FOk P 133 [.vs (l.map eSe), .fn 122 [] [.vp [eDr d] 0 0]] (I (idx1 d 0 l)) := by
  obtain ⟨⟨hl, hs⟩, hd⟩ := h
  refine c133.fok (by simp only [subs, sub1, free_Se]) (Cor.run (addC_good g_isReserved1 (noC_good _)) (noHx_good _) hm ?_)
  simp +contextual -implicitDefEqProofs (maxSteps := 2000000) only [bg_eq, a133, List.length_map, ruB, rh_no, Int.reduceLT, Int.reduceLE, Int.reduceAdd, Int.reduceSub, Int.reduceMul, Int.reduceNeg, Int.reduceToNat, Int.reduceEq, Int.reduceNe, Int.reduceTDiv, Int.reduceTMod, implies_true, putL, appN, appX, appC, Eng.Fi, reduceCtorEq, exists_eq_left', exists_eq_left, if_true, if_false, List.replicate, Nat.reduceAdd, Nat.reduceSub, Nat.reduceMul, Nat.reduceLeDiff, Nat.reduceLT, Nat.reduceEqDiff]
  refine Cor.lp (addC_good g_isReserved1 (noC_good _)) (noHx_good _) hm (S133 l d) (fun n => n ≤ l.length ∧ idx1 d 0 l = idx1 d n (l.drop n)) (fun n => l.length - n) (a := 0) ⟨Nat.zero_le _, rfl⟩ (Wkn.keep [0, 1, 6, 7, 8] rfl) ?_
  intro f n ⟨hn, hf⟩ go
  rcases Nat.lt_or_ge n l.length with h | h
  · have e1 : decide ((n : Int) < (l.length : Int)) = true := lt_t h
    have e2 : (l.map eSe)[n]? = some (eSe l[n]) := get_e eSe l h
    have e3 : IntKind.wrap .i64 ((n : Int) + 1) = ((n + 1 : Nat) : Int) := suc_w (by omega)
    have y := x_isReserved1 l[n] d (by simp only [eq_iff_iff, iff_true]; exact ⟨hs _ (by simp), hd⟩)
    rw [List.drop_eq_getElem_cons h, idx1] at hf
    by_cases hc : hasP l[n] d
    · rw [if_pos hc] at hf
      simp +contextual -implicitDefEqProofs (maxSteps := 2000000) only [S133, e1, e2, e3, y, hc, ruB, rh_no, Int.reduceLT, Int.reduceLE, Int.reduceAdd, Int.reduceSub, Int.reduceMul, Int.reduceNeg, Int.reduceToNat, Int.reduceEq, Int.reduceNe, Int.reduceTDiv, Int.reduceTMod, implies_true, putL, appN, appX, appC, Eng.Fi, reduceCtorEq, exists_eq_left', exists_eq_left, if_true, if_false, List.replicate, Nat.reduceAdd, Nat.reduceSub, Nat.reduceMul, Nat.reduceLeDiff, Nat.reduceLT, Nat.reduceEqDiff]
      rw [hf]
    · rw [if_neg hc] at hf
      simp +contextual -implicitDefEqProofs (maxSteps := 2000000) only [S133, e1, e2, e3, y, hc, ruB, rh_no, Int.reduceLT, Int.reduceLE, Int.reduceAdd, Int.reduceSub, Int.reduceMul, Int.reduceNeg, Int.reduceToNat, Int.reduceEq, Int.reduceNe, Int.reduceTDiv, Int.reduceTMod, implies_true, putL, appN, appX, appC, Eng.Fi, reduceCtorEq, exists_eq_left', exists_eq_left, if_true, if_false, List.replicate, Nat.reduceAdd, Nat.reduceSub, Nat.reduceMul, Nat.reduceLeDiff, Nat.reduceLT, Nat.reduceEqDiff]
      exact go _ (n + 1) ⟨h, hf⟩ (by omega) (Wkn.keep [0, 1, 6, 7, 8] rfl)
  · have e1 : decide ((n : Int) < (l.length : Int)) = false := lt_f h
    rw [List.drop_eq_nil_of_le h] at hf
    simp +contextual -implicitDefEqProofs (maxSteps := 2000000) only [S133, e1, ruB, rh_no, Int.reduceLT, Int.reduceLE, Int.reduceAdd, Int.reduceSub, Int.reduceMul, Int.reduceNeg, Int.reduceToNat, Int.reduceEq, Int.reduceNe, Int.reduceTDiv, Int.reduceTMod, implies_true, putL, appN, appX, appC, Eng.Fi, reduceCtorEq, exists_eq_left', exists_eq_left, if_true, if_false, List.replicate, Nat.reduceAdd, Nat.reduceSub, Nat.reduceMul, Nat.reduceLeDiff, Nat.reduceLT, Nat.reduceEqDiff]
    rw [hf]; rfl
def cf_IndexFuncS : List AV → Option AV
  | [.vs vals, .fn 122 [] [.vp [.agg [.int .i64 a, .int .i64 e]] 0 0]] => onL dSe vals fun l => if okR l ⟨a, e⟩ then some (I (idx1 ⟨a, e⟩ 0 l)) else none
  | _ => none
theorem g_IndexFuncS : Fn P 133 cf_IndexFuncS := fun args v h => by
  unfold cf_IndexFuncS at h; split at h
  · obtain ⟨l, rfl, h2⟩ := onL_inv dSe_inv h
    split at h2
    · rename_i hc; cases h2; exact k_IndexFuncS l ⟨_, _⟩ hc
    · cases h2
  · cases h
theorem x_IndexFuncS (l : List Se) (d : Dr) (h : okR l d) : cf_IndexFuncS [.vs (l.map eSe), .fn 122 [] [.vp [.agg [I d.az, I d.el]] 0 0]] = some (I (idx1 d 0 l)) := by
  simp only [cf_IndexFuncS, onL_map dSe_e]
  rw [if_pos h]
theorem k_ContainsFuncS (l : List Se) (d : Dr) (h : okR l d) : FOk P 121 [.vs (l.map eSe), .fn 122 [] [.vp [eDr d] 0 0]] (.bool (resv l d)) := by
  have y := x_IndexFuncS l d h
  rw [← idx1_resv d l 0]
  refine c121.fok (by simp only [subs, sub1, free_Se]) (Cor.run (addC_good g_IndexFuncS (noC_good _)) (noHx_good _) hm ?_)
  simp +contextual -implicitDefEqProofs (maxSteps := 2000000) only [bg_eq, a121, y, ruB, rh_no, Int.reduceLT, Int.reduceLE, Int.reduceAdd, Int.reduceSub, Int.reduceMul, Int.reduceNeg, Int.reduceToNat, Int.reduceEq, Int.reduceNe, Int.reduceTDiv, Int.reduceTMod, implies_true, putL, appN, appX, appC, Eng.Fi, reduceCtorEq, exists_eq_left', exists_eq_left, if_true, if_false, List.replicate, Nat.reduceAdd, Nat.reduceSub, Nat.reduceMul, Nat.reduceLeDiff, Nat.reduceLT, Nat.reduceEqDiff]
def cf_ContainsFuncS : List AV → Option AV
  | [.vs vals, .fn 122 [] [.vp [.agg [.int .i64 a, .int .i64 e]] 0 0]] => onL dSe vals fun l => if okR l ⟨a, e⟩ then some (.bool (resv l ⟨a, e⟩)) else none
  | _ => none
theorem g_ContainsFuncS : Fn P 121 cf_ContainsFuncS := fun args v h => by
  unfold cf_ContainsFuncS at h; split at h
  · obtain ⟨l, rfl, h2⟩ := onL_inv dSe_inv h
    split at h2
    · rename_i hc; cases h2; exact k_ContainsFuncS l ⟨_, _⟩ hc
    · cases h2
  · cases h
theorem x_ContainsFuncS (l : List Se) (d : Dr) (h : okR l d) : cf_ContainsFuncS [.vs (l.map eSe), .fn 122 [] [.vp [.agg [I d.az, I d.el]] 0 0]] = some (.bool (resv l d)) := by
  simp only [cf_ContainsFuncS, onL_map dSe_e]
  rw [if_pos h]
structure Hd where
  home : Dr
  ra : Int
  aa : Int
  re : Int
  ae : Int
  res : List Se
abbrev eHd (h : Hd) : AV := .agg [I h.home.az, I h.home.el, I h.ra, I h.aa, I h.re, I h.ae, .vs (h.res.map eSe)]
def onH (v : AV) (g : Hd → Option AV) : Option AV := match v with
  | .agg [.int .i64 a, .int .i64 b, .int .i64 c, .int .i64 d, .int .i64 e, .int .i64 f, .vs vals] => onL dSe vals fun l => g ⟨⟨a, b⟩, c, d, e, f, l⟩
  | _ => none
theorem onH_e (h : Hd) (g : Hd → Option AV) : onH (eHd h) g = g h := by simp only [onH, onL_map dSe_e]
theorem onH_inv {v : AV} {g : Hd → Option AV} {u : AV} (h : onH v g = some u) : ∃ x, v = eHd x ∧ g x = some u := by
  unfold onH at h
  split at h
  · obtain ⟨l, rfl, h2⟩ := onL_inv dSe_inv h
    exact ⟨_, rfl, h2⟩
  · cases h
theorem free_Hd (φ : Nat → Fate) (h : Hd) : sub1 φ (eHd h) = eHd h := by simp only [sub1, subs, free_Se]
theorem free_Hs (φ : Nat → Fate) (h : Hd) (r : List AV) : subs φ (eHd h :: r) = eHd h :: subs φ r := by simp only [subs, free_Hd]
def S94 (h : Hd) (d : Dr) : AState := ⟨[.any, .any, .vp [eHd h] 0 0, .vp [eDr d] 0 0, .any, .any, .any, .any, .any], [], 0⟩
theorem k_isReserved (h : Hd) (d : Dr) (hk : okR h.res d) : FOk P 94 [eHd h, eDr d] (.bool (resv h.res d)) := by
  have y := x_ContainsFuncS h.res d hk
  refine c94.fok (y := YH P noHx) (by simp only [free_Hs, subs, sub1, free_Se]) ?_
  rw [bg_eq]
  refine Cor.seq (Cor.run (noC_good _) (noHx_good _) hm ?_)
  simp +contextual -implicitDefEqProofs (maxSteps := 2000000) only [eThen_normal, ruB, rh_no, Int.reduceLT, Int.reduceLE, Int.reduceAdd, Int.reduceSub, Int.reduceMul, Int.reduceNeg, Int.reduceToNat, Int.reduceEq, Int.reduceNe, Int.reduceTDiv, Int.reduceTMod, implies_true, putL, appN, appX, appC, Eng.Fi, reduceCtorEq, exists_eq_left', exists_eq_left, if_true, if_false, List.replicate, Nat.reduceAdd, Nat.reduceSub, Nat.reduceMul, Nat.reduceLeDiff, Nat.reduceLT, Nat.reduceEqDiff]
  refine Cor.wk (s2 := S94 h d) (Wkn.to ⟨0, [], [0, 1], 0, [2, 3]⟩ rfl rfl (by simp [Wk.st, keepT, memN, Wk.fate, Wk.fate0, assoc, getE, Wk.hp, ABlk.sub, sub1, subs, S94, free_Se])) ?_
  refine Cor.run (addC_good g_ContainsFuncS (noC_good _)) (noHx_good _) hm ?_
  simp +contextual -implicitDefEqProofs (maxSteps := 2000000) only [S94, y, ruB, rh_no, Int.reduceLT, Int.reduceLE, Int.reduceAdd, Int.reduceSub, Int.reduceMul, Int.reduceNeg, Int.reduceToNat, Int.reduceEq, Int.reduceNe, Int.reduceTDiv, Int.reduceTMod, implies_true, putL, appN, appX, appC, Eng.Fi, reduceCtorEq, exists_eq_left', exists_eq_left, if_true, if_false, List.replicate, Nat.reduceAdd, Nat.reduceSub, Nat.reduceMul, Nat.reduceLeDiff, Nat.reduceLT, Nat.reduceEqDiff]
end Sc
