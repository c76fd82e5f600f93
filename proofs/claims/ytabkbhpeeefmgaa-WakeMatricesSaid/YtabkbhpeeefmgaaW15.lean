import Derived.Test.YtabkbhpeeefmgaaEngS9
import Derived.Test.YtabkbhpeeefmgaaW14
open Go Go.Proofs Eng
set_option maxRecDepth 100000
set_option linter.unusedSimpArgs false
set_option linter.unusedVariables false
def a120 : AC := .seq (.ops false [] [⟨some 1, .box 102 10 1 true, [.t 0], none⟩, ⟨some 2, .p (.mov), [.c (.int .i64 0)], none⟩]) (.seq (.ops false [] [⟨some 3, .p (.mov), [.c (.fn 146 [] [])], none⟩]) (.seq (.ops false [] [⟨some 7, .p (.faddr 5), [.t 1], none⟩, ⟨some 8, .load 1 false, [.t 7], none⟩, ⟨some 9, .p (.lenS), [.t 8], none⟩, ⟨some 4, .p (.mov), [.t 9], none⟩]) (.seq (.ops true [] [⟨some 10, .p (.mov), [.t 3], none⟩, ⟨some 11, .p (.faddr 0), [.t 1], none⟩, ⟨some 12, .load 2 true, [.t 11], none⟩, ⟨some 13, .callv, [.t 10, .t 12, .c (.fn 144 [] [])], none⟩, ⟨some 14, .p (.mov), [.t 3], none⟩, ⟨some 15, .p (.faddr 2), [.t 1], none⟩, ⟨some 16, .load 2 true, [.t 15], none⟩, ⟨some 17, .callv, [.t 14, .t 16, .c (.fn 145 [] [])], none⟩, ⟨some 18, .p (.faddr 4), [.t 1], none⟩, ⟨some 19, .load 1 false, [.t 18], none⟩, ⟨some 20, .call 147, [.t 19], none⟩, ⟨some 21, .call 91, [.t 20, .c (.int .i64 2)], none⟩, ⟨some 22, .p (.mov), [.t 4], none⟩, ⟨some 23, .p (.binI .gtr), [.t 22, .c (.int .i64 0)], none⟩, ⟨some 24, .call 91, [.t 23, .c (.int .i64 10)], none⟩, ⟨some 25, .p (.mov), [.t 4], none⟩, ⟨some 26, .p (.binI .leq), [.t 25, .c (.int .i64 6)], none⟩, ⟨some 27, .call 91, [.t 26, .c (.int .i64 8)], none⟩, ⟨some 28, .fbs 1, [.t 13, .t 17, .t 21, .t 24, .t 27], none⟩, ⟨some 29, .call 79, [.t 28], none⟩, ⟨some 5, .p (.mov), [.t 29], none⟩]) (.seq (.seq (.ops false [] [⟨some 30, .p (.mov), [.t 5], none⟩, ⟨some 31, .p (.binI .neq), [.t 30, .c (.int .i64 0)], none⟩]) (.cond (.t 31) (.seq (.ops false [] [⟨some 32, .p (.mov), [.t 5], none⟩, ⟨some 2, .p (.mov), [.t 32], none⟩]) (.ret)) (.skip))) (.seq (.ops false [] [⟨some 6, .alloc 3 1 [.int .i64 0], [], none⟩, ⟨none, .store 1 false, [.t 6, .c (.int .i64 0)], none⟩]) (.seq (.ops false [] [⟨some 33, .p (.faddr 5), [.t 1], none⟩, ⟨some 34, .load 1 false, [.t 33], none⟩, ⟨some 35, .p (.mkfn 149 0), [.t 6], none⟩, ⟨some 36, .call 148, [.t 34, .t 35], none⟩, ⟨some 5, .p (.mov), [.t 36], none⟩]) (.seq (.ops true [] [⟨some 37, .p (.mov), [.t 5], none⟩, ⟨some 38, .p (.faddr 6), [.t 1], none⟩, ⟨some 39, .load 3 true, [.t 38], none⟩, ⟨some 40, .call 113, [.t 39], none⟩, ⟨some 41, .p (.faddr 9), [.t 1], none⟩, ⟨some 42, .load 1 false, [.t 41], none⟩, ⟨some 43, .call 123, [.t 42], none⟩, ⟨some 44, .fbs 1, [.t 37, .t 40, .t 43], none⟩, ⟨some 45, .call 79, [.t 44], none⟩, ⟨some 2, .p (.mov), [.t 45], none⟩]) (.ret))))))))
theorem c120 : FnC Try.prog 120 46 a120 [.tmp 2] := ⟨Try.call120, _, _, Try.func120, rfl, by kernel_rfl, by kernel_rfl, rfl⟩
def a146 : AC := .seq (.ops false [] [⟨some 2, .box 48 2 1 true, [.t 0], none⟩, ⟨some 4, .p (.mov), [.c (.int .i64 0)], none⟩]) (.seq (.ops true [] [⟨some 6, .p (.mov), [.t 1], none⟩, ⟨some 7, .p (.faddr 0), [.t 2], none⟩, ⟨some 8, .load 1 false, [.t 7], none⟩, ⟨some 9, .callv, [.t 6, .t 8], none⟩, ⟨some 10, .p (.mov), [.t 9], none⟩, ⟨some 11, .p (.mov), [.t 1], some (10, true)⟩, ⟨some 12, .p (.faddr 1), [.t 2], some (10, true)⟩, ⟨some 13, .load 1 false, [.t 12], some (10, true)⟩, ⟨some 14, .callv, [.t 11, .t 13], some (10, true)⟩, ⟨some 15, .p (.pick), [.t 10, .t 14, .c (.bool false)], none⟩, ⟨some 16, .call 91, [.t 15, .c (.int .i64 2)], none⟩, ⟨some 17, .load 2 true, [.t 2], none⟩, ⟨some 18, .call 92, [.t 17], none⟩, ⟨some 19, .fbs 1, [.t 16, .t 18], none⟩, ⟨some 20, .call 79, [.t 19], none⟩, ⟨some 5, .p (.mov), [.t 20], none⟩]) (.seq (.seq (.ops false [] [⟨some 21, .p (.mov), [.t 5], none⟩, ⟨some 22, .p (.binI .neq), [.t 21, .c (.int .i64 0)], none⟩]) (.cond (.t 22) (.seq (.ops false [] [⟨some 23, .p (.mov), [.t 5], none⟩, ⟨some 4, .p (.mov), [.t 23], none⟩]) (.ret)) (.skip))) (.seq (.ops false [] [⟨some 24, .p (.faddr 1), [.t 2], none⟩, ⟨some 25, .load 1 false, [.t 24], none⟩, ⟨some 26, .p (.faddr 0), [.t 2], none⟩, ⟨some 27, .load 1 false, [.t 26], none⟩, ⟨some 28, .p (.binI .sub), [.t 25, .t 27], none⟩, ⟨some 29, .p (.binI .leq), [.t 28, .c (.int .i64 12)], none⟩, ⟨some 30, .call 91, [.t 29, .c (.int .i64 8)], none⟩, ⟨some 4, .p (.mov), [.t 30], none⟩]) (.ret))))
theorem c146 : FnC Try.prog 146 31 a146 [.tmp 4] := ⟨Try.call146, _, _, Try.func146, rfl, by kernel_rfl, by kernel_rfl, rfl⟩
def a148 : AC := .seq (.ops false [] [⟨some 4, .p (.mov), [.c (.int .i64 0)], none⟩]) (.seq (.seq (.ops false [] [⟨some 8, .p (.mov), [.t 0], none⟩, ⟨some 9, .p (.lenS), [.t 8], none⟩, ⟨some 10, .p (.mov), [.c (.int .i64 0)], none⟩]) (.block 0 (.loop (.seq (.ops false [] [⟨some 11, .p (.binI .lss), [.t 10, .t 9], none⟩]) (.seq (.cond (.t 11) (.skip) (.exit 0)) (.seq (.block 1 (.seq (.ops false [] [⟨some 12, .p (.iaddrS 1), [.t 8, .t 10], none⟩, ⟨some 13, .load 1 false, [.t 12], none⟩, ⟨some 6, .p (.mov), [.t 13], none⟩]) (.seq (.ops false [] [⟨some 14, .p (.mov), [.t 1], none⟩, ⟨some 15, .p (.mov), [.t 6], none⟩, ⟨some 16, .callv, [.t 14, .t 15], none⟩, ⟨some 7, .p (.mov), [.t 16], none⟩]) (.seq (.ops false [] [⟨some 17, .p (.mov), [.t 7], none⟩, ⟨some 18, .p (.binI .neq), [.t 17, .c (.int .i64 0)], none⟩]) (.cond (.t 18) (.seq (.ops false [] [⟨some 19, .p (.mov), [.t 7], none⟩, ⟨some 4, .p (.mov), [.t 19], none⟩]) (.ret)) (.skip)))))) (.ops false [] [⟨some 20, .p (.binI .add), [.t 10, .c (.int .i64 1)], none⟩, ⟨some 10, .p (.mov), [.t 20], none⟩]))))))) (.seq (.ops false [] [⟨some 4, .p (.mov), [.c (.int .i64 0)], none⟩]) (.ret)))
theorem c148 : FnC Try.prog 148 21 a148 [.tmp 4] := ⟨Try.call148, _, _, Try.func148, rfl, by kernel_rfl, by kernel_rfl, rfl⟩
def a149 : AC := .seq (.ops false [] [⟨some 3, .p (.mov), [.c (.int .i64 0)], none⟩]) (.seq (.ops true [] [⟨some 5, .p (.mov), [.t 0], none⟩, ⟨some 6, .call 150, [.t 5], none⟩, ⟨some 7, .call 91, [.t 6, .c (.int .i64 2)], none⟩, ⟨some 8, .p (.mov), [.t 0], none⟩, ⟨some 9, .load 1 false, [.t 1], none⟩, ⟨some 10, .p (.binI .gtr), [.t 8, .t 9], none⟩, ⟨some 11, .call 91, [.t 10, .c (.int .i64 9)], none⟩, ⟨some 12, .fbs 1, [.t 7, .t 11], none⟩, ⟨some 13, .call 79, [.t 12], none⟩, ⟨some 4, .p (.mov), [.t 13], none⟩]) (.seq (.ops false [] [⟨some 14, .p (.mov), [.t 0], none⟩, ⟨none, .store 1 false, [.t 1, .t 14], none⟩]) (.seq (.ops false [] [⟨some 15, .p (.mov), [.t 4], none⟩, ⟨some 3, .p (.mov), [.t 15], none⟩]) (.ret))))
theorem c149 : FnC Try.prog 149 16 a149 [.tmp 3] := ⟨Try.call149, _, _, Try.func149, rfl, by kernel_rfl, by kernel_rfl, rfl⟩
namespace Wa
structure Sr where
  yl : Int
  yh : Int
  zl : Int
  zh : Int
  h : Int
  st : List Int
  su : Su
  rd : List Rg
abbrev eSr (x : Sr) : AV := .agg [I x.yl, I x.yh, I x.zl, I x.zh, I x.h, .vs (x.st.map eI), I x.su.y, I x.su.z, I x.su.c, .vs (x.rd.map eRg)]
def onSr (v : AV) (g : Sr → Option AV) : Option AV := match v with
  | .agg [.int .i64 a, .int .i64 b, .int .i64 c, .int .i64 d, .int .i64 e, .vs us, .int .i64 f, .int .i64 i, .int .i64 j, .vs vs] => onL decI us fun l => onL dRg vs fun m => g ⟨a, b, c, d, e, l, ⟨f, i, j⟩, m⟩
  | _ => none
theorem onSr_e (x : Sr) (g : Sr → Option AV) : onSr (eSr x) g = g x := by simp only [onSr, onL_map (enc := eI) decI_I, onL_map dRg_e]
theorem onSr_inv {v : AV} {g : Sr → Option AV} {u : AV} (h : onSr v g = some u) : ∃ x, v = eSr x ∧ g x = some u := by
  unfold onSr at h
  split at h
  · obtain ⟨l, rfl, h2⟩ := onL_inv (enc := eI) (fun v x => decI_inv) h
    obtain ⟨m, rfl, h3⟩ := onL_inv dRg_inv h2
    exact ⟨_, rfl, h3⟩
  · cases h
theorem free_Sr (φ : Nat → Fate) (x : Sr) : sub1 φ (eSr x) = eSr x := by simp only [sub1, subs, free_I, free_Rg]
def arG (p : Prop) [Decidable p] (a b : Int) : Int := if firstE [unl p 2, unl (a ≤ b) 9] = 0 then unl (b - a ≤ 12) 8 else firstE [unl p 2, unl (a ≤ b) 9]
theorem ar_sm {p : Prop} [Decidable p] {a b : Int} (h : firstE [unl p 2, unl (a ≤ b) 9] = 0) : p ∧ a ≤ b := by
  have z := firstE_zero h
  exact ⟨unl_zero (z (unl p 2) (by simp)) (by decide), unl_zero (z (unl (a ≤ b) 9) (by simp)) (by decide)⟩
theorem k_areaS (a b : Int) : FOk P 146 [eRn ⟨a, b⟩, .fn 144 [] []] (I (arG (siR a ∧ siR b) a b)) := by
  unfold arG
  by_cases h : firstE [unl (siR a ∧ siR b) 2, unl (a ≤ b) 9] = 0
  · have hs := ar_sm h
    have w : IntKind.wrap .i64 (b - a) = b - a := by unfold siR at hs; exact wrap64 (by omega) (by omega)
    rw [if_pos h]
    refine c146.fok rfl (Cor.run (addC_good g_first (addC_good g_orderErr (addC_good g_unless (addC_good g_isSide (noC_good _))))) (noHx_good _) hm ?_)
    simp +contextual -implicitDefEqProofs (maxSteps := 2000000) only [bg_eq, a146, x_isSide, x_unless, x_orderErr, x_first, y_first, h, w, not_true_eq_false, ruB, rh_no, Int.reduceLT, Int.reduceLE, Int.reduceAdd, Int.reduceSub, Int.reduceMul, Int.reduceNeg, Int.reduceToNat, Int.reduceEq, Int.reduceNe, Int.reduceTDiv, Int.reduceTMod, implies_true, putL, appN, appX, appC, Eng.Fi, reduceCtorEq, exists_eq_left', exists_eq_left, if_true, if_false, List.replicate, Nat.reduceAdd, Nat.reduceSub, Nat.reduceMul, Nat.reduceLeDiff, Nat.reduceLT, Nat.reduceEqDiff]
  · rw [if_neg h]
    refine c146.fok rfl (Cor.run (addC_good g_first (addC_good g_orderErr (addC_good g_unless (addC_good g_isSide (noC_good _))))) (noHx_good _) hm ?_)
    simp +contextual -implicitDefEqProofs (maxSteps := 2000000) only [bg_eq, a146, x_isSide, x_unless, x_orderErr, x_first, y_first, h, not_false_eq_true, ruB, rh_no, Int.reduceLT, Int.reduceLE, Int.reduceAdd, Int.reduceSub, Int.reduceMul, Int.reduceNeg, Int.reduceToNat, Int.reduceEq, Int.reduceNe, Int.reduceTDiv, Int.reduceTMod, implies_true, putL, appN, appX, appC, Eng.Fi, reduceCtorEq, exists_eq_left', exists_eq_left, if_true, if_false, List.replicate, Nat.reduceAdd, Nat.reduceSub, Nat.reduceMul, Nat.reduceLeDiff, Nat.reduceLT, Nat.reduceEqDiff]
theorem k_areaH (a b : Int) : FOk P 146 [eRn ⟨a, b⟩, .fn 145 [] []] (I (arG (heR a ∧ heR b) a b)) := by
  unfold arG
  by_cases h : firstE [unl (heR a ∧ heR b) 2, unl (a ≤ b) 9] = 0
  · have hs := ar_sm h
    have w : IntKind.wrap .i64 (b - a) = b - a := by unfold heR at hs; exact wrap64 (by omega) (by omega)
    rw [if_pos h]
    refine c146.fok rfl (Cor.run (addC_good g_first (addC_good g_orderErr (addC_good g_unless (addC_good g_isHeight (noC_good _))))) (noHx_good _) hm ?_)
    simp +contextual -implicitDefEqProofs (maxSteps := 2000000) only [bg_eq, a146, x_isHeight, x_unless, x_orderErr, x_first, y_first, h, w, not_true_eq_false, ruB, rh_no, Int.reduceLT, Int.reduceLE, Int.reduceAdd, Int.reduceSub, Int.reduceMul, Int.reduceNeg, Int.reduceToNat, Int.reduceEq, Int.reduceNe, Int.reduceTDiv, Int.reduceTMod, implies_true, putL, appN, appX, appC, Eng.Fi, reduceCtorEq, exists_eq_left', exists_eq_left, if_true, if_false, List.replicate, Nat.reduceAdd, Nat.reduceSub, Nat.reduceMul, Nat.reduceLeDiff, Nat.reduceLT, Nat.reduceEqDiff]
  · rw [if_neg h]
    refine c146.fok rfl (Cor.run (addC_good g_first (addC_good g_orderErr (addC_good g_unless (addC_good g_isHeight (noC_good _))))) (noHx_good _) hm ?_)
    simp +contextual -implicitDefEqProofs (maxSteps := 2000000) only [bg_eq, a146, x_isHeight, x_unless, x_orderErr, x_first, y_first, h, not_false_eq_true, ruB, rh_no, Int.reduceLT, Int.reduceLE, Int.reduceAdd, Int.reduceSub, Int.reduceMul, Int.reduceNeg, Int.reduceToNat, Int.reduceEq, Int.reduceNe, Int.reduceTDiv, Int.reduceTMod, implies_true, putL, appN, appX, appC, Eng.Fi, reduceCtorEq, exists_eq_left', exists_eq_left, if_true, if_false, List.replicate, Nat.reduceAdd, Nat.reduceSub, Nat.reduceMul, Nat.reduceLeDiff, Nat.reduceLT, Nat.reduceEqDiff]
def cf_CheckSearch1 : List AV → Option AV
  | [.agg [.int .i64 a, .int .i64 b], .fn f [] []] => if f = 144 then some (I (arG (siR a ∧ siR b) a b)) else if f = 145 then some (I (arG (heR a ∧ heR b) a b)) else none
  | _ => none
theorem g_CheckSearch1 : Fn P 146 cf_CheckSearch1 := fun args v h => by
  unfold cf_CheckSearch1 at h; split at h
  · split at h
    · rename_i e; subst e; have h := Option.some.inj h; subst h; exact k_areaS _ _
    · split at h
      · rename_i e; subst e; have h := Option.some.inj h; subst h; exact k_areaH _ _
      · cases h
  · cases h
theorem x_areaS (a b : Int) : cf_CheckSearch1 [.agg [.int .i64 a, .int .i64 b], .fn 144 [] []] = some (I (arG (siR a ∧ siR b) a b)) := rfl
theorem x_areaH (a b : Int) : cf_CheckSearch1 [.agg [.int .i64 a, .int .i64 b], .fn 145 [] []] = some (I (arG (heR a ∧ heR b) a b)) := rfl
def stE (a n : Int) : Int := firstE [unl (1 ≤ n ∧ n ≤ 10000) 2, unl (a < n) 9]
def stG : Int → List Int → Int
  | _, [] => 0
  | a, n :: r => if stE a n = 0 then stG n r else stE a n
def stL : Int → List Int → Int
  | a, [] => a
  | a, n :: r => if stE a n = 0 then stL n r else n
def Js (a : Int) : List HEnt := [⟨0, 0, .rows 3 1 [I a]⟩]
theorem l_CheckSearch2 (n a : Int) : LOk P 149 [I n, .ptr 0 1 0 0] (Js a) 1 (I (stE a n)) (Js n) 1 := by
  refine c149.lok (Cor.post (Cor.run (addC_good g_first (addC_good g_unless (addC_good g_isStrength (noC_good _)))) (noHx_good _) hm ?_))
  simp +contextual -implicitDefEqProofs (maxSteps := 2000000) only [bg_eq, a149, x_isStrength, x_unless, x_first, y_first, stE, FinL, Js, ruB, rh_no, Int.reduceLT, Int.reduceLE, Int.reduceAdd, Int.reduceSub, Int.reduceMul, Int.reduceNeg, Int.reduceToNat, Int.reduceEq, Int.reduceNe, Int.reduceTDiv, Int.reduceTMod, implies_true, putL, appN, appX, appC, Eng.Fi, reduceCtorEq, exists_eq_left', exists_eq_left, if_true, if_false, List.replicate, Nat.reduceAdd, Nat.reduceSub, Nat.reduceMul, Nat.reduceLeDiff, Nat.reduceLT, Nat.reduceEqDiff]
  exact ⟨_, Wkn.to ⟨1, [], [], 1, [3]⟩ rfl rfl (by simp [Wk.st, keepT, memN, Wk.fate, Wk.fate0, assoc, getE, Wk.hp, ABlk.sub, sub1, subs]; rfl), _, rfl, rfl, rfl, rfl⟩
def ch_ : List AV → List HEnt → Nat → Option (AV × List HEnt × Nat)
  | [.int .i64 n, .ptr 0 1 0 0], [⟨0, 0, .rows 3 1 [.int .i64 a]⟩], 1 => some (I (stE a n), Js n, 1)
  | _, _, _ => none
theorem h_ch : Hn P 149 ch_ := fun args H nx v hp' nx' h => by
  unfold ch_ at h
  split at h
  · have h := Option.some.inj h
    simp only [Prod.mk.injEq] at h
    obtain ⟨rfl, rfl, rfl⟩ := h
    exact l_CheckSearch2 _ _
  · cases h
theorem y_ch (n a : Int) : ch_ [.int .i64 n, .ptr 0 1 0 0] [⟨0, 0, .rows 3 1 [.int .i64 a]⟩] 1 = some (I (stE a n), Js n, 1) := rfl
def S_eI (l : List Int) (q : Nat × Int) : AState := ⟨[.any, .fn 149 [] [.ptr 0 1 0 0], .any, .any, .any, .any, .any, .any, .vs (l.map eI), I l.length, I q.1, .any, .any, .any, .any, .any, .any, .any, .any, .any, .any], Js q.2, 1⟩
theorem l_eachI (l : List Int) (a0 : Int) (hl : l.length ≤ 1099511627776) : LOk P 148 [.vs (l.map eI), .fn 149 [] [.ptr 0 1 0 0]] (Js a0) 1 (I (stG a0 l)) (Js (stL a0 l)) 1 := by
  have hg := addH_good h_ch (noHx_good P)
  refine c148.lok (y := YH P (addH 149 ch_ noHx)) (Cor.run (noC_good _) hg hm ?_) (fun G => YH_add (by decide) (YH_no _ G))
  simp +contextual -implicitDefEqProofs (maxSteps := 2000000) only [bg_eq, a148, List.length_map, ruH, ruB, Int.reduceLT, Int.reduceLE, Int.reduceAdd, Int.reduceSub, Int.reduceMul, Int.reduceNeg, Int.reduceToNat, Int.reduceEq, Int.reduceNe, Int.reduceTDiv, Int.reduceTMod, implies_true, putL, appN, appX, appC, Eng.Fi, reduceCtorEq, exists_eq_left', exists_eq_left, if_true, if_false, List.replicate, Nat.reduceAdd, Nat.reduceSub, Nat.reduceMul, Nat.reduceLeDiff, Nat.reduceLT, Nat.reduceEqDiff]
  refine Cor.lp (noC_good _) hg hm (S_eI l) (fun q => q.1 ≤ l.length ∧ stG a0 l = stG q.2 (l.drop q.1) ∧ stL a0 l = stL q.2 (l.drop q.1)) (fun q => l.length - q.1) (a := (0, a0)) ⟨Nat.zero_le _, rfl, rfl⟩ (Wkn.keep [1, 8, 9, 10] rfl) ?_
  rintro f ⟨k, a⟩ ⟨hk, hf, hf2⟩ go
  simp only at hk hf hf2
  rcases Nat.lt_or_ge k l.length with h | h
  · have e1 : decide ((k : Int) < (l.length : Int)) = true := lt_t h
    have e2 : (l.map eI)[k]? = some (eI l[k]) := get_e eI l h
    have e3 : IntKind.wrap .i64 ((k : Int) + 1) = ((k + 1 : Nat) : Int) := suc_w (by omega)
    rw [List.drop_eq_getElem_cons h, stG] at hf
    rw [List.drop_eq_getElem_cons h, stL] at hf2
    generalize l[k] = n at *
    by_cases c1 : stE a n = 0
    · have c1' := eq_true c1
      rw [if_pos c1] at hf hf2
      simp +contextual -implicitDefEqProofs (maxSteps := 2000000) only [S_eI, Js, e1, e2, e3, y_ch, c1', not_true_eq_false, ruH, ruB, Int.reduceLT, Int.reduceLE, Int.reduceAdd, Int.reduceSub, Int.reduceMul, Int.reduceNeg, Int.reduceToNat, Int.reduceEq, Int.reduceNe, Int.reduceTDiv, Int.reduceTMod, implies_true, putL, appN, appX, appC, Eng.Fi, reduceCtorEq, exists_eq_left', exists_eq_left, if_true, if_false, List.replicate, Nat.reduceAdd, Nat.reduceSub, Nat.reduceMul, Nat.reduceLeDiff, Nat.reduceLT, Nat.reduceEqDiff]
      exact go _ (k + 1, n) ⟨h, hf, hf2⟩ (by simp only; omega) (Wkn.keep [1, 8, 9, 10] rfl)
    · have c1' := eq_false c1
      rw [if_neg c1] at hf hf2
      rw [hf, hf2]
      simp +contextual -implicitDefEqProofs (maxSteps := 2000000) only [S_eI, Js, e1, e2, e3, y_ch, c1', not_false_eq_true, FinL, ruH, ruB, Int.reduceLT, Int.reduceLE, Int.reduceAdd, Int.reduceSub, Int.reduceMul, Int.reduceNeg, Int.reduceToNat, Int.reduceEq, Int.reduceNe, Int.reduceTDiv, Int.reduceTMod, implies_true, putL, appN, appX, appC, Eng.Fi, reduceCtorEq, exists_eq_left', exists_eq_left, if_true, if_false, List.replicate, Nat.reduceAdd, Nat.reduceSub, Nat.reduceMul, Nat.reduceLeDiff, Nat.reduceLT, Nat.reduceEqDiff]
  · have e1 : decide ((k : Int) < (l.length : Int)) = false := lt_f h
    rw [List.drop_eq_nil_of_le h] at hf hf2
    rw [hf, hf2, stG, stL]
    simp +contextual -implicitDefEqProofs (maxSteps := 2000000) only [S_eI, Js, e1, FinL, ruH, ruB, Int.reduceLT, Int.reduceLE, Int.reduceAdd, Int.reduceSub, Int.reduceMul, Int.reduceNeg, Int.reduceToNat, Int.reduceEq, Int.reduceNe, Int.reduceTDiv, Int.reduceTMod, implies_true, putL, appN, appX, appC, Eng.Fi, reduceCtorEq, exists_eq_left', exists_eq_left, if_true, if_false, List.replicate, Nat.reduceAdd, Nat.reduceSub, Nat.reduceMul, Nat.reduceLeDiff, Nat.reduceLT, Nat.reduceEqDiff]
def ea_ : List AV → List HEnt → Nat → Option (AV × List HEnt × Nat)
  | [.vs us, .fn 149 [] [.ptr 0 1 0 0]], [⟨0, 0, .rows 3 1 [.int .i64 a]⟩], 1 => match decL decI us with
    | some l => if l.length ≤ 1099511627776 then some (I (stG a l), Js (stL a l), 1) else none
    | none => none
  | _, _, _ => none
theorem h_ea : Hn P 148 ea_ := fun args H nx v hp' nx' h => by
  unfold ea_ at h
  split at h
  · split at h
    · rename_i l hd
      split at h
      · rename_i hl
        have h := Option.some.inj h
        simp only [Prod.mk.injEq] at h
        obtain ⟨rfl, rfl, rfl⟩ := h
        rw [decL_inv decI eI (fun v x => decI_inv) hd]
        exact l_eachI _ _ hl
      · cases h
    · cases h
  · cases h
theorem y_ea (l : List Int) (a : Int) (h : l.length ≤ 1099511627776) : ea_ [.vs (l.map eI), .fn 149 [] [.ptr 0 1 0 0]] [⟨0, 0, .rows 3 1 [.int .i64 a]⟩] 1 = some (I (stG a l), Js (stL a l), 1) := by
  simp only [ea_, decL_map decI eI decI_I]
  rw [if_pos h]
def s1E (x : Sr) : Int := firstE [arG (siR x.yl ∧ siR x.yh) x.yl x.yh, arG (heR x.zl ∧ heR x.zh) x.zl x.zh, unl (1 ≤ x.h ∧ x.h ≤ 100) 2, unl (0 < (x.st.length : Int)) 10, unl ((x.st.length : Int) ≤ 6) 8]
def srE (x : Sr) : Int := if s1E x = 0 then firstE [stG 0 x.st, suE x.su, rsE x.rd] else s1E x
def S_cs (x : Sr) : AState := ⟨[.any, .vp [eSr x] 0 0, .any, .any, .any, .any, .any, .any, .any, .any, .any, .any, .any, .any, .any, .any, .any, .any, .any, .any, .any, .any, .any, .any, .any, .any, .any, .any, .any, .any, .any, .any, .any, .any, .any, .any, .any, .any, .any, .any, .any, .any, .any, .any, .any, .any], [], 0⟩
def S_cs2 (x : Sr) : AState := ⟨[.any, .vp [eSr x] 0 0, .any, .any, .any, .any, .ptr 0 1 0 0, .any, .any, .any, .any, .any, .any, .any, .any, .any, .any, .any, .any, .any, .any, .any, .any, .any, .any, .any, .any, .any, .any, .any, .any, .any, .any, .any, .any, .any, .any, .any, .any, .any, .any, .any, .any, .any, .any, .any], Js 0, 1⟩
theorem k_CheckSearch (x : Sr) : FOk P 120 [eSr x] (I (srE x)) := by
  have y1 := x_areaS x.yl x.yh
  have y2 := x_areaH x.zl x.zh
  have y3 := x_setupErr x.su.y x.su.z x.su.c
  have y4 := x_readingsErr x.rd
  have e2 : suE ⟨x.su.y, x.su.z, x.su.c⟩ = suE x.su := rfl
  rw [e2] at y3
  have hg := addH_good h_ea (noHx_good P)
  by_cases h0 : s1E x = 0
  · have h1 := h0
    unfold s1E at h1
    have hl : (x.st.length : Int) ≤ 6 := unl_zero (firstE_zero h1 (unl ((x.st.length : Int) ≤ 6) 8) (by simp)) (by decide)
    have ye := y_ea x.st 0 (by omega)
    rw [srE, if_pos h0]
    refine c120.fok (y := YH P (addH 148 ea_ noHx)) (by simp only [subs, sub1, free_I, free_Rg]) ?_ (fun G => YH_add (by decide) (YH_no _ G))
    rw [bg_eq]
    refine Cor.seq (Cor.run (noC_good _) hg hm ?_)
    simp +contextual -implicitDefEqProofs (maxSteps := 2000000) only [eThen_normal, ruH, ruB, Int.reduceLT, Int.reduceLE, Int.reduceAdd, Int.reduceSub, Int.reduceMul, Int.reduceNeg, Int.reduceToNat, Int.reduceEq, Int.reduceNe, Int.reduceTDiv, Int.reduceTMod, implies_true, putL, appN, appX, appC, Eng.Fi, reduceCtorEq, exists_eq_left', exists_eq_left, if_true, if_false, List.replicate, Nat.reduceAdd, Nat.reduceSub, Nat.reduceMul, Nat.reduceLeDiff, Nat.reduceLT, Nat.reduceEqDiff]
    refine Cor.wk (s2 := S_cs x) (Wkn.to ⟨0, [], [0], 0, [1]⟩ rfl rfl (by simp [Wk.st, keepT, memN, Wk.fate, Wk.fate0, assoc, getE, Wk.hp, ABlk.sub, sub1, subs, free_I, free_Rg, S_cs])) ?_
    refine Cor.seq (Cor.run (noC_good _) hg hm ?_)
    simp +contextual -implicitDefEqProofs (maxSteps := 2000000) only [S_cs, eThen_normal, ruH, ruB, Int.reduceLT, Int.reduceLE, Int.reduceAdd, Int.reduceSub, Int.reduceMul, Int.reduceNeg, Int.reduceToNat, Int.reduceEq, Int.reduceNe, Int.reduceTDiv, Int.reduceTMod, implies_true, putL, appN, appX, appC, Eng.Fi, reduceCtorEq, exists_eq_left', exists_eq_left, if_true, if_false, List.replicate, Nat.reduceAdd, Nat.reduceSub, Nat.reduceMul, Nat.reduceLeDiff, Nat.reduceLT, Nat.reduceEqDiff]
    refine Cor.seq (Cor.run (noC_good _) hg hm ?_)
    simp +contextual -implicitDefEqProofs (maxSteps := 2000000) only [List.length_map, eThen_normal, ruH, ruB, Int.reduceLT, Int.reduceLE, Int.reduceAdd, Int.reduceSub, Int.reduceMul, Int.reduceNeg, Int.reduceToNat, Int.reduceEq, Int.reduceNe, Int.reduceTDiv, Int.reduceTMod, implies_true, putL, appN, appX, appC, Eng.Fi, reduceCtorEq, exists_eq_left', exists_eq_left, if_true, if_false, List.replicate, Nat.reduceAdd, Nat.reduceSub, Nat.reduceMul, Nat.reduceLeDiff, Nat.reduceLT, Nat.reduceEqDiff]
    refine Cor.seq (Cor.run (addC_good g_first (addC_good g_unless (addC_good g_isHalf (addC_good g_CheckSearch1 (noC_good _))))) hg hm ?_)
    simp +contextual -implicitDefEqProofs (maxSteps := 2000000) only [y1, y2, x_isHalf, x_unless, x_first, y_first, h1, List.length_map, eThen_normal, not_true_eq_false, ruH, ruB, Int.reduceLT, Int.reduceLE, Int.reduceAdd, Int.reduceSub, Int.reduceMul, Int.reduceNeg, Int.reduceToNat, Int.reduceEq, Int.reduceNe, Int.reduceTDiv, Int.reduceTMod, implies_true, putL, appN, appX, appC, Eng.Fi, reduceCtorEq, exists_eq_left', exists_eq_left, if_true, if_false, List.replicate, Nat.reduceAdd, Nat.reduceSub, Nat.reduceMul, Nat.reduceLeDiff, Nat.reduceLT, Nat.reduceEqDiff]
    refine Cor.seq (Cor.run (noC_good _) hg hm ?_)
    simp +contextual -implicitDefEqProofs (maxSteps := 2000000) only [h1, eThen_normal, not_true_eq_false, ruH, ruB, Int.reduceLT, Int.reduceLE, Int.reduceAdd, Int.reduceSub, Int.reduceMul, Int.reduceNeg, Int.reduceToNat, Int.reduceEq, Int.reduceNe, Int.reduceTDiv, Int.reduceTMod, implies_true, putL, appN, appX, appC, Eng.Fi, reduceCtorEq, exists_eq_left', exists_eq_left, if_true, if_false, List.replicate, Nat.reduceAdd, Nat.reduceSub, Nat.reduceMul, Nat.reduceLeDiff, Nat.reduceLT, Nat.reduceEqDiff]
    refine Cor.seq (Cor.run (noC_good _) hg hm ?_)
    simp +contextual -implicitDefEqProofs (maxSteps := 2000000) only [eThen_normal, ruH, ruB, Int.reduceLT, Int.reduceLE, Int.reduceAdd, Int.reduceSub, Int.reduceMul, Int.reduceNeg, Int.reduceToNat, Int.reduceEq, Int.reduceNe, Int.reduceTDiv, Int.reduceTMod, implies_true, putL, appN, appX, appC, Eng.Fi, reduceCtorEq, exists_eq_left', exists_eq_left, if_true, if_false, List.replicate, Nat.reduceAdd, Nat.reduceSub, Nat.reduceMul, Nat.reduceLeDiff, Nat.reduceLT, Nat.reduceEqDiff]
    refine Cor.wk (s2 := S_cs2 x) (Wkn.to ⟨0, [(0, 0)], [], 1, [1, 6]⟩ rfl rfl (by simp [Wk.st, keepT, memN, Wk.fate, Wk.fate0, assoc, getE, Wk.hp, ABlk.sub, sub1, subs, free_I, free_Rg, S_cs2, Js])) ?_
    refine Cor.run (addC_good g_first (addC_good g_readingsErr (addC_good g_setupErr (noC_good _)))) hg hm ?_
    simp +contextual -implicitDefEqProofs (maxSteps := 2000000) only [S_cs2, Js, ye, y3, y4, x_first, y_first, free_I, free_Rg, ruH, ruB, Int.reduceLT, Int.reduceLE, Int.reduceAdd, Int.reduceSub, Int.reduceMul, Int.reduceNeg, Int.reduceToNat, Int.reduceEq, Int.reduceNe, Int.reduceTDiv, Int.reduceTMod, implies_true, putL, appN, appX, appC, Eng.Fi, reduceCtorEq, exists_eq_left', exists_eq_left, if_true, if_false, List.replicate, Nat.reduceAdd, Nat.reduceSub, Nat.reduceMul, Nat.reduceLeDiff, Nat.reduceLT, Nat.reduceEqDiff]
  · rw [srE, if_neg h0]
    unfold s1E at h0 ⊢
    refine c120.fok (by simp only [subs, sub1, free_I, free_Rg]) (Cor.run (addC_good g_first (addC_good g_unless (addC_good g_isHalf (addC_good g_CheckSearch1 (noC_good _))))) (noHx_good _) hm ?_)
    simp +contextual -implicitDefEqProofs (maxSteps := 2000000) only [bg_eq, a120, y1, y2, x_isHalf, x_unless, x_first, y_first, h0, List.length_map, not_false_eq_true, ruB, rh_no, Int.reduceLT, Int.reduceLE, Int.reduceAdd, Int.reduceSub, Int.reduceMul, Int.reduceNeg, Int.reduceToNat, Int.reduceEq, Int.reduceNe, Int.reduceTDiv, Int.reduceTMod, implies_true, putL, appN, appX, appC, Eng.Fi, reduceCtorEq, exists_eq_left', exists_eq_left, if_true, if_false, List.replicate, Nat.reduceAdd, Nat.reduceSub, Nat.reduceMul, Nat.reduceLeDiff, Nat.reduceLT, Nat.reduceEqDiff]
noncomputable def cf_CheckSearch : List AV → Option AV
  | [x_v] => onSr x_v fun x => some (I (srE x))
  | _ => none
theorem g_CheckSearch : Fn P 120 cf_CheckSearch := fun args v hh => by
  unfold cf_CheckSearch at hh; split at hh
  · obtain ⟨x, rfl, hh1⟩ := onSr_inv hh
    have hk := Option.some.inj hh1; subst hk; exact k_CheckSearch _
  · cases hh
theorem x_CheckSearch (x : Sr) : cf_CheckSearch [eSr x] = some (I (srE x)) := by
  simp only [cf_CheckSearch, onSr_e]
end Wa
