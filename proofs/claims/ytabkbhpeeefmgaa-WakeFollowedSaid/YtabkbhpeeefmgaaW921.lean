import Derived.Test.YtabkbhpeeefmgaaEngS9
import Derived.Test.YtabkbhpeeefmgaaW920
import Derived.Test.YtabkbhpeeefmgaaW912
open Go Go.Proofs Eng
set_option maxRecDepth 100000
set_option linter.unusedSimpArgs false
set_option linter.unusedVariables false
def a16 : AC := .seq (.ops false [] [⟨some 2, .p (.mov), [.c (.nilslice)], none⟩]) (.seq (.ops false [] [⟨some 3, .p (.mov), [.c (.nilslice)], none⟩]) (.seq (.seq (.ops false [] [⟨some 4, .p (.mov), [.c (.int .i64 0)], none⟩]) (.block 0 (.loop (.seq (.seq (.ops false [] [⟨some 5, .p (.mov), [.t 4], none⟩, ⟨some 6, .p (.mov), [.t 0], none⟩, ⟨some 7, .p (.lenS), [.t 6], none⟩, ⟨some 8, .p (.binI .lss), [.t 5, .t 7], none⟩]) (.cond (.t 8) (.skip) (.exit 0))) (.seq (.block 1 (.ops false [] [⟨some 11, .p (.mov), [.t 3], none⟩, ⟨some 12, .p (.mov), [.t 0], none⟩, ⟨some 13, .p (.mov), [.t 4], none⟩, ⟨some 14, .p (.iaddrS 1), [.t 12, .t 13], none⟩, ⟨some 15, .load 1 false, [.t 14], none⟩, ⟨some 16, .call 22, [.t 15], none⟩, ⟨some 17, .fbs 1, [.t 16], none⟩, ⟨some 18, .app 34 1 24, [.t 11, .t 17], none⟩, ⟨some 3, .p (.mov), [.t 18], none⟩])) (.ops false [] [⟨some 9, .p (.mov), [.t 4], none⟩, ⟨some 10, .p (.binI .add), [.t 9, .c (.int .i64 1)], none⟩, ⟨some 4, .p (.mov), [.t 10], none⟩])))))) (.seq (.ops false [] [⟨some 19, .p (.mov), [.t 3], none⟩, ⟨some 2, .p (.mov), [.t 19], none⟩]) (.ret))))
theorem c16 : FnC Try.prog 16 20 a16 [.tmp 2] := ⟨Try.call16, _, _, Try.func16, rfl, by kernel_rfl, by kernel_rfl, rfl⟩
def a17 : AC := .seq (.ops false [] [⟨some 4, .p (.mov), [.c (.int .i64 0)], none⟩]) (.seq (.seq (.ops false [] [⟨some 7, .p (.mov), [.t 0], none⟩, ⟨some 8, .p (.lenS), [.t 7], none⟩, ⟨some 9, .p (.binI .gtr), [.t 8, .c (.int .i64 6)], none⟩]) (.cond (.t 9) (.seq (.ops false [] [⟨some 4, .p (.mov), [.c (.int .i64 8)], none⟩]) (.ret)) (.skip))) (.seq (.seq (.ops false [] [⟨some 5, .p (.mov), [.c (.int .i64 0)], none⟩]) (.block 0 (.loop (.seq (.seq (.ops false [] [⟨some 10, .p (.mov), [.t 5], none⟩, ⟨some 11, .p (.mov), [.t 0], none⟩, ⟨some 12, .p (.lenS), [.t 11], none⟩, ⟨some 13, .p (.binI .lss), [.t 10, .t 12], none⟩]) (.cond (.t 13) (.skip) (.exit 0))) (.seq (.block 1 (.seq (.ops false [] [⟨some 16, .p (.mov), [.t 0], none⟩, ⟨some 17, .p (.mov), [.t 5], none⟩, ⟨some 18, .p (.iaddrS 1), [.t 16, .t 17], none⟩, ⟨some 19, .load 1 false, [.t 18], none⟩, ⟨some 20, .call 85, [.t 19], none⟩, ⟨some 6, .p (.mov), [.t 20], none⟩]) (.seq (.ops false [] [⟨some 21, .p (.mov), [.t 6], none⟩, ⟨some 22, .p (.binI .neq), [.t 21, .c (.int .i64 0)], none⟩]) (.cond (.t 22) (.seq (.ops false [] [⟨some 23, .p (.mov), [.t 6], none⟩, ⟨some 4, .p (.mov), [.t 23], none⟩]) (.ret)) (.skip))))) (.ops false [] [⟨some 14, .p (.mov), [.t 5], none⟩, ⟨some 15, .p (.binI .add), [.t 14, .c (.int .i64 1)], none⟩, ⟨some 5, .p (.mov), [.t 15], none⟩])))))) (.seq (.ops false [] [⟨some 24, .p (.mov), [.t 1], none⟩, ⟨some 25, .call 86, [.t 24], none⟩, ⟨some 4, .p (.mov), [.t 25], none⟩]) (.ret))))
theorem c17 : FnC Try.prog 17 26 a17 [.tmp 4] := ⟨Try.call17, _, _, Try.func17, rfl, by kernel_rfl, by kernel_rfl, rfl⟩
namespace Wa
abbrev Vs := List Vo
def dVs : AV → Option Vs
  | .vs us => decL dVo us
  | _ => none
theorem dVs_e (l : Vs) : dVs (eVs l) = some l := decL_map dVo eVo dVo_e l
theorem dVs_inv (v : AV) (l : Vs) (h : dVs v = some l) : v = eVs l := by
  unfold dVs at h
  split at h
  · rw [decL_inv dVo eVo dVo_inv h]
  · cases h
abbrev eTr (l : Tr) : AV := .vs (l.map eP2)
theorem free_Tr (φ : Nat → Fate) (l : List Tr) : subs φ (l.map eTr) = l.map eTr := subs_mapE φ _ (fun l => by simp only [sub1, free_P2]) l
def scG : List Vs → Int
  | [] => 0
  | s :: r => if scE s = 0 then scG r else scE s
def S_eS (l : List Vs) (k : Nat) : AState := ⟨[.any, .fn 81 [] [], .any, .any, .any, .any, .any, .any, .vs (l.map eVs), I l.length, I k, .any, .any, .any, .any, .any, .any, .any, .any, .any, .any], [], 0⟩
theorem k_eachS (l : List Vs) (hl : l.length ≤ 1099511627776) : FOk P 80 [.vs (l.map eVs), .fn 81 [] []] (I (scG l)) := by
  refine c80.fok (by simp only [subs, sub1, free_Vs]) (Cor.run (addC_good g_scanErr (noC_good _)) (noHx_good _) hm ?_)
  simp +contextual -implicitDefEqProofs (maxSteps := 2000000) only [bg_eq, a80, List.length_map, ruB, rh_no, Int.reduceLT, Int.reduceLE, Int.reduceAdd, Int.reduceSub, Int.reduceMul, Int.reduceNeg, Int.reduceToNat, Int.reduceEq, Int.reduceNe, Int.reduceTDiv, Int.reduceTMod, implies_true, putL, appN, appX, appC, Eng.Fi, reduceCtorEq, exists_eq_left', exists_eq_left, if_true, if_false, List.replicate, Nat.reduceAdd, Nat.reduceSub, Nat.reduceMul, Nat.reduceLeDiff, Nat.reduceLT, Nat.reduceEqDiff]
  refine Cor.lp (addC_good g_scanErr (noC_good _)) (noHx_good _) hm (S_eS l) (fun k => k ≤ l.length ∧ scG l = scG (l.drop k)) (fun k => l.length - k) (a := 0) ⟨Nat.zero_le _, rfl⟩ (Wkn.keep [1, 8, 9, 10] rfl) ?_
  intro f k ⟨hk, hf⟩ go
  rcases Nat.lt_or_ge k l.length with h | h
  · have e1 : decide ((k : Int) < (l.length : Int)) = true := lt_t h
    have e2 : (l.map eVs)[k]? = some (eVs l[k]) := get_e eVs l h
    have e3 : IntKind.wrap .i64 ((k : Int) + 1) = ((k + 1 : Nat) : Int) := suc_w (by omega)
    have y := x_scanErr l[k]
    rw [List.drop_eq_getElem_cons h, scG] at hf
    generalize l[k] = r at *
    by_cases c1 : scE r = 0
    · have c1' := eq_true c1
      rw [if_pos c1] at hf
      simp +contextual -implicitDefEqProofs (maxSteps := 2000000) only [S_eS, e1, e2, e3, y, c1', not_true_eq_false, ruB, rh_no, Int.reduceLT, Int.reduceLE, Int.reduceAdd, Int.reduceSub, Int.reduceMul, Int.reduceNeg, Int.reduceToNat, Int.reduceEq, Int.reduceNe, Int.reduceTDiv, Int.reduceTMod, implies_true, putL, appN, appX, appC, Eng.Fi, reduceCtorEq, exists_eq_left', exists_eq_left, if_true, if_false, List.replicate, Nat.reduceAdd, Nat.reduceSub, Nat.reduceMul, Nat.reduceLeDiff, Nat.reduceLT, Nat.reduceEqDiff]
      exact go _ (k + 1) ⟨h, hf⟩ (by omega) (Wkn.keep [1, 8, 9, 10] rfl)
    · have c1' := eq_false c1
      rw [if_neg c1] at hf
      rw [hf]
      simp +contextual -implicitDefEqProofs (maxSteps := 2000000) only [S_eS, e1, e2, e3, y, c1', not_false_eq_true, ruB, rh_no, Int.reduceLT, Int.reduceLE, Int.reduceAdd, Int.reduceSub, Int.reduceMul, Int.reduceNeg, Int.reduceToNat, Int.reduceEq, Int.reduceNe, Int.reduceTDiv, Int.reduceTMod, implies_true, putL, appN, appX, appC, Eng.Fi, reduceCtorEq, exists_eq_left', exists_eq_left, if_true, if_false, List.replicate, Nat.reduceAdd, Nat.reduceSub, Nat.reduceMul, Nat.reduceLeDiff, Nat.reduceLT, Nat.reduceEqDiff]
  · have e1 : decide ((k : Int) < (l.length : Int)) = false := lt_f h
    rw [List.drop_eq_nil_of_le h, scG] at hf
    rw [hf]
    simp +contextual -implicitDefEqProofs (maxSteps := 2000000) only [S_eS, e1, ruB, rh_no, Int.reduceLT, Int.reduceLE, Int.reduceAdd, Int.reduceSub, Int.reduceMul, Int.reduceNeg, Int.reduceToNat, Int.reduceEq, Int.reduceNe, Int.reduceTDiv, Int.reduceTMod, implies_true, putL, appN, appX, appC, Eng.Fi, reduceCtorEq, exists_eq_left', exists_eq_left, if_true, if_false, List.replicate, Nat.reduceAdd, Nat.reduceSub, Nat.reduceMul, Nat.reduceLeDiff, Nat.reduceLT, Nat.reduceEqDiff]
def cf_eachS : List AV → Option AV
  | [.vs l_v, .fn 81 [] []] => onL dVs l_v fun l => if l.length ≤ 1099511627776 then some (I (scG l)) else none
  | _ => none
theorem g_eachS : Fn P 80 cf_eachS := fun args v hh => by
  unfold cf_eachS at hh; split at hh
  · obtain ⟨l, rfl, hh1⟩ := onL_inv dVs_inv hh
    split at hh1
    · rename_i hc; have hk := Option.some.inj hh1; subst hk; exact k_eachS _ hc
    · cases hh1
  · cases hh
theorem x_eachS (l : List Vs) (hc : (l.length ≤ 1099511627776) = True) : cf_eachS [.vs (l.map eVs), .fn 81 [] []] = some (I (scG l)) := by
  simp only [cf_eachS, onL_map dVs_e]
  exact if_pos (by rw [hc]; trivial)
/-- the error of scans and a miss -/
def soE (l : List Vs) (n : Int) : Int := if 6 < (l.length : Int) then 8 else firstE [scG l, unl (miR n) 2]
theorem scG_z : ∀ {l : List Vs}, scG l = 0 → ∀ s ∈ l, scE s = 0
  | [], _, s, h => by simp at h
  | x :: l, h, s, hs => by
    rw [scG] at h
    split at h
    · rename_i hx
      rcases List.mem_cons.1 hs with rfl | hs
      · exact hx
      · exact scG_z h s hs
    · rename_i hx; exact absurd h hx
theorem soE_z {l : List Vs} {n : Int} (h : soE l n = 0) : l.length ≤ 6 ∧ (∀ s ∈ l, scE s = 0) ∧ miR n := by
  unfold soE at h
  split at h
  · simp at h
  · have z := firstE_zero h
    exact ⟨by omega, scG_z (z (scG l) (by simp)), unl_zero (z (unl (miR n) 2) (by simp)) (by decide)⟩
theorem soE_pair {l : List Vs} {n : Int} (h : soE l n = 0) {a b : Vs} (ha : a ∈ l) (hb : b ∈ l) : olE a b n = 0 := by
  obtain ⟨_, h2, h3⟩ := soE_z h
  exact firstE_all fun e he => by
    simp only [List.mem_cons, List.not_mem_nil, or_false] at he
    rcases he with rfl | rfl | rfl
    · exact h2 a ha
    · exact h2 b hb
    · exact unl_t _ h3
def S_rsx (l : List Vs) (n : Int) (k : Nat) : AState := ⟨[.vs (l.map eVs), I n, .any, .any, .any, I k, .any, .any, .any, .any, .any, .any, .any, .any, .any, .any, .any, .any, .any, .any, .any, .any, .any, .any, .any, .any], [], 0⟩
theorem k_rScansErr (l : List Vs) (n : Int) (hl : l.length ≤ 1099511627776) : FOk P 17 [.vs (l.map eVs), I n] (I (soE l n)) := by
  unfold soE
  by_cases h6 : 6 < (l.length : Int)
  · have h6' := eq_true h6
    rw [if_pos h6]
    refine c17.fok (by simp only [subs, sub1, free_Vs]) (Cor.run (addC_good g_rMissErr (addC_good g_rScanErr (noC_good _))) (noHx_good _) hm ?_)
    simp +contextual -implicitDefEqProofs (maxSteps := 2000000) only [bg_eq, a17, List.length_map, h6', ruB, rh_no, Int.reduceLT, Int.reduceLE, Int.reduceAdd, Int.reduceSub, Int.reduceMul, Int.reduceNeg, Int.reduceToNat, Int.reduceEq, Int.reduceNe, Int.reduceTDiv, Int.reduceTMod, implies_true, putL, appN, appX, appC, Eng.Fi, reduceCtorEq, exists_eq_left', exists_eq_left, if_true, if_false, List.replicate, Nat.reduceAdd, Nat.reduceSub, Nat.reduceMul, Nat.reduceLeDiff, Nat.reduceLT, Nat.reduceEqDiff]
  · have h6' := eq_false h6
    rw [if_neg h6]
    have ym := x_rMissErr n
    refine c17.fok (by simp only [subs, sub1, free_Vs]) (Cor.run (addC_good g_rMissErr (addC_good g_rScanErr (noC_good _))) (noHx_good _) hm ?_)
    simp +contextual -implicitDefEqProofs (maxSteps := 2000000) only [bg_eq, a17, List.length_map, h6', Int.natCast_zero, ruB, rh_no, Int.reduceLT, Int.reduceLE, Int.reduceAdd, Int.reduceSub, Int.reduceMul, Int.reduceNeg, Int.reduceToNat, Int.reduceEq, Int.reduceNe, Int.reduceTDiv, Int.reduceTMod, implies_true, putL, appN, appX, appC, Eng.Fi, reduceCtorEq, exists_eq_left', exists_eq_left, if_true, if_false, List.replicate, Nat.reduceAdd, Nat.reduceSub, Nat.reduceMul, Nat.reduceLeDiff, Nat.reduceLT, Nat.reduceEqDiff]
    refine Cor.lp (addC_good g_rMissErr (addC_good g_rScanErr (noC_good _))) (noHx_good _) hm (S_rsx l n) (fun k => k ≤ l.length ∧ scG l = scG (l.drop k)) (fun k => l.length - k) (a := 0) ⟨Nat.zero_le _, rfl⟩ (Wkn.keep [0, 1, 5] rfl) ?_
    intro f k ⟨hk, hf⟩ go
    rcases Nat.lt_or_ge k l.length with h | h
    · have e1 : decide ((k : Int) < (l.length : Int)) = true := lt_t h
      have e2 : (l.map eVs)[k]? = some (eVs l[k]) := get_e eVs l h
      have e3 : IntKind.wrap .i64 ((k : Int) + 1) = ((k + 1 : Nat) : Int) := suc_w (by omega)
      have y := x_rScanErr l[k]
      rw [List.drop_eq_getElem_cons h, scG] at hf
      generalize l[k] = r at *
      by_cases c1 : scE r = 0
      · have c1' := eq_true c1
        rw [if_pos c1] at hf
        simp +contextual -implicitDefEqProofs (maxSteps := 2000000) only [S_rsx, e1, e2, e3, y, c1', List.length_map, not_true_eq_false, ruB, rh_no, Int.reduceLT, Int.reduceLE, Int.reduceAdd, Int.reduceSub, Int.reduceMul, Int.reduceNeg, Int.reduceToNat, Int.reduceEq, Int.reduceNe, Int.reduceTDiv, Int.reduceTMod, implies_true, putL, appN, appX, appC, Eng.Fi, reduceCtorEq, exists_eq_left', exists_eq_left, if_true, if_false, List.replicate, Nat.reduceAdd, Nat.reduceSub, Nat.reduceMul, Nat.reduceLeDiff, Nat.reduceLT, Nat.reduceEqDiff]
        exact go _ (k + 1) ⟨h, hf⟩ (by omega) (Wkn.keep [0, 1, 5] rfl)
      · have c1' := eq_false c1
        rw [if_neg c1] at hf
        rw [firstE, hf, if_neg c1]
        simp +contextual -implicitDefEqProofs (maxSteps := 2000000) only [S_rsx, e1, e2, e3, y, c1', List.length_map, not_false_eq_true, ruB, rh_no, Int.reduceLT, Int.reduceLE, Int.reduceAdd, Int.reduceSub, Int.reduceMul, Int.reduceNeg, Int.reduceToNat, Int.reduceEq, Int.reduceNe, Int.reduceTDiv, Int.reduceTMod, implies_true, putL, appN, appX, appC, Eng.Fi, reduceCtorEq, exists_eq_left', exists_eq_left, if_true, if_false, List.replicate, Nat.reduceAdd, Nat.reduceSub, Nat.reduceMul, Nat.reduceLeDiff, Nat.reduceLT, Nat.reduceEqDiff]
    · have e1 : decide ((k : Int) < (l.length : Int)) = false := lt_f h
      rw [List.drop_eq_nil_of_le h, scG] at hf
      rw [firstE, hf, if_pos rfl, firstE]
      have e0 : (if unl (miR n) 2 = 0 then firstE [] else unl (miR n) 2) = unl (miR n) 2 := by
        split
        · rename_i q; rw [q]; rfl
        · rfl
      rw [e0]
      simp +contextual -implicitDefEqProofs (maxSteps := 2000000) only [S_rsx, e1, ym, List.length_map, ruB, rh_no, Int.reduceLT, Int.reduceLE, Int.reduceAdd, Int.reduceSub, Int.reduceMul, Int.reduceNeg, Int.reduceToNat, Int.reduceEq, Int.reduceNe, Int.reduceTDiv, Int.reduceTMod, implies_true, putL, appN, appX, appC, Eng.Fi, reduceCtorEq, exists_eq_left', exists_eq_left, if_true, if_false, List.replicate, Nat.reduceAdd, Nat.reduceSub, Nat.reduceMul, Nat.reduceLeDiff, Nat.reduceLT, Nat.reduceEqDiff]
def cf_rScansErr : List AV → Option AV
  | [.vs l_v, .int .i64 n] => onL dVs l_v fun l => if l.length ≤ 1099511627776 then some (I (soE l n)) else none
  | _ => none
theorem g_rScansErr : Fn P 17 cf_rScansErr := fun args v hh => by
  unfold cf_rScansErr at hh; split at hh
  · obtain ⟨l, rfl, hh1⟩ := onL_inv dVs_inv hh
    split at hh1
    · rename_i hc; have hk := Option.some.inj hh1; subst hk; exact k_rScansErr _ _ hc
    · cases hh1
  · cases hh
theorem x_rScansErr (l : List Vs) (n : Int) (hc : (l.length ≤ 1099511627776) = True) : cf_rScansErr [.vs (l.map eVs), .int .i64 n] = some (I (soE l n)) := by
  simp only [cf_rScansErr, onL_map dVs_e]
  exact if_pos (by rw [hc]; trivial)
def S_cv (m out : List Vs) (k : Nat) : AState := ⟨[.vs (m.map eVs), .any, .any, gA 0 1 (out.map eVs), I k, .any, .any, .any, .any, .any, .any, .any, .any, .any, .any, .any, .any, .any, .any, .any], gH 0 34 1 (out.map eVs), 1⟩
theorem tk_Vs (l : List Vs) : (l.map eVs).take l.length = l.map eVs := by rw [List.take_of_length_le]; simp
theorem k_CopyS0 (m R : List Vs) (hR : R = m) (hm0 : m.length ≤ 1000 ∧ ∀ r ∈ m, r.length ≤ 1000) : FOk P 16 [.vs (m.map eVs)] (.vs (R.map eVs)) := by
  obtain ⟨hl, hr⟩ := hm0
  refine c16.fok (by simp only [subs, sub1, free_Vs]) (Cor.run (addC_good g_CopyVortices (noC_good _)) (noHx_good _) hm ?_)
  simp +contextual -implicitDefEqProofs (maxSteps := 2000000) only [bg_eq, a16, Int.natCast_zero, ruB, rh_no, Int.reduceLT, Int.reduceLE, Int.reduceAdd, Int.reduceSub, Int.reduceMul, Int.reduceNeg, Int.reduceToNat, Int.reduceEq, Int.reduceNe, Int.reduceTDiv, Int.reduceTMod, implies_true, putL, appN, appX, appC, Eng.Fi, reduceCtorEq, exists_eq_left', exists_eq_left, if_true, if_false, List.replicate, Nat.reduceAdd, Nat.reduceSub, Nat.reduceMul, Nat.reduceLeDiff, Nat.reduceLT, Nat.reduceEqDiff]
  refine Cor.lp (addC_good g_CopyVortices (noC_good _)) (noHx_good _) hm (fun q : Nat × List Vs => S_cv m q.2 q.1) (fun q => q.1 ≤ m.length ∧ q.2 = m.take q.1) (fun q => m.length - q.1) (a := (0, [])) ⟨Nat.zero_le _, by simp⟩ (Wkn.to ⟨0, [], [], 1, [0, 3, 4]⟩ rfl rfl (by simp [Wk.st, keepT, memN, Wk.fate, Wk.fate0, assoc, getE, Wk.hp, ABlk.sub, sub1, subs, S_cv, gA, gH, free_Vs])) ?_
  rintro f ⟨k, out⟩ ⟨hk, ho⟩ go
  simp only at hk ho go ⊢
  have hol : out.length ≤ k := by rw [ho]; simp; omega
  have hfo := fun φ => free_Vs φ out
  rcases Nat.lt_or_ge k m.length with h | h
  · have e1 : decide ((k : Int) < (m.length : Int)) = true := lt_t h
    have e2 : (m.map eVs)[k]? = some (eVs m[k]) := get_e eVs m h
    have e3 : IntKind.wrap .i64 ((k : Int) + 1) = ((k + 1 : Nat) : Int) := suc_w (by omega)
    have y := x_CopyVortices m[k] (by simp only [eq_iff_iff, iff_true]; exact hr _ (by simp))
    have hs : m.take (k + 1) = out ++ [m[k]] := by rw [List.take_succ_eq_append_getElem h, ho]
    obtain ⟨r, hre⟩ : ∃ r, m[k] = r := ⟨_, rfl⟩
    rw [hre] at e2 y hs
    have m1 : (out.length + 1 ≤ maxLen) = True := mx (by omega)
    have m2 : ((out.length + 1) * 24 ≤ 140737488355328) = True := by simp only [eq_iff_iff, iff_true]; omega
    cases out with
    | nil =>
      simp only [List.map_cons, List.map_nil, subs, List.cons.injEq] at hfo
      simp only [List.length_nil, List.length_cons, Nat.zero_add] at m1 m2
      simp +contextual -implicitDefEqProofs (maxSteps := 2000000) only [S_cv, gA, gH, e1, e2, e3, y, rs_nil, rs_t, rs_f, ag_nils, ag_sl, ag_vs, ag_str, ag_ptr, ag_nilp, ag_vp, ag_fun, m1, m2, List.length_map, List.map_cons, List.map_nil, ruB, rh_no, Int.reduceLT, Int.reduceLE, Int.reduceAdd, Int.reduceSub, Int.reduceMul, Int.reduceNeg, Int.reduceToNat, Int.reduceEq, Int.reduceNe, Int.reduceTDiv, Int.reduceTMod, implies_true, putL, appN, appX, appC, Eng.Fi, reduceCtorEq, exists_eq_left', exists_eq_left, if_true, if_false, List.replicate, Nat.reduceAdd, Nat.reduceSub, Nat.reduceMul, Nat.reduceLeDiff, Nat.reduceLT, Nat.reduceEqDiff]
      exact go _ (k + 1, [] ++ [r]) ⟨h, hs.symm⟩ (by simp only; omega) (Wkn.to ⟨0, [(1, 0)], [], 1, [0, 3, 4]⟩ rfl rfl (by simp [Wk.st, keepT, memN, Wk.fate, Wk.fate0, assoc, getE, Wk.hp, ABlk.sub, sub1, subs, S_cv, gA, gH, hfo, free_Vs, free_Vo, subs_append]))
      
    | cons z0 zr =>
      simp only [List.map_cons, List.map_nil, subs, List.cons.injEq] at hfo
      simp only [List.length_nil, List.length_cons, Nat.zero_add] at m1 m2
      simp +contextual -implicitDefEqProofs (maxSteps := 2000000) only [S_cv, gA, gH, e1, e2, e3, y, rs_nil, rs_t, rs_f, ag_nils, ag_sl, ag_vs, ag_str, ag_ptr, ag_nilp, ag_vp, ag_fun, m1, m2, List.length_map, List.map_cons, List.map_nil, ruB, rh_no, Int.reduceLT, Int.reduceLE, Int.reduceAdd, Int.reduceSub, Int.reduceMul, Int.reduceNeg, Int.reduceToNat, Int.reduceEq, Int.reduceNe, Int.reduceTDiv, Int.reduceTMod, implies_true, putL, appN, appX, appC, Eng.Fi, reduceCtorEq, exists_eq_left', exists_eq_left, if_true, if_false, List.replicate, Nat.reduceAdd, Nat.reduceSub, Nat.reduceMul, Nat.reduceLeDiff, Nat.reduceLT, Nat.reduceEqDiff]
      exact go _ (k + 1, (z0 :: zr) ++ [r]) ⟨h, hs.symm⟩ (by simp only; omega) (Wkn.to ⟨0, [(1, 0)], [], 1, [0, 3, 4]⟩ rfl rfl (by simp [Wk.st, keepT, memN, Wk.fate, Wk.fate0, assoc, getE, Wk.hp, ABlk.sub, sub1, subs, S_cv, gA, gH, hfo, free_Vs, free_Vo, subs_append]))
      
  · have e1 : decide ((k : Int) < (m.length : Int)) = false := lt_f h
    rw [List.take_of_length_le h] at ho
    rw [show R = out from hR.trans ho.symm]
    clear hR ho
    cases out with
    | nil =>
      simp only [List.map_cons, List.map_nil, subs, List.cons.injEq] at hfo
      simp +contextual -implicitDefEqProofs (maxSteps := 2000000) only [S_cv, gA, gH, e1, List.length_map, List.map_cons, List.map_nil, tk_Vs, Nat.le_refl, hfo, free_Vs, free_Vo, ruB, rh_no, Int.reduceLT, Int.reduceLE, Int.reduceAdd, Int.reduceSub, Int.reduceMul, Int.reduceNeg, Int.reduceToNat, Int.reduceEq, Int.reduceNe, Int.reduceTDiv, Int.reduceTMod, implies_true, putL, appN, appX, appC, Eng.Fi, reduceCtorEq, exists_eq_left', exists_eq_left, if_true, if_false, List.replicate, Nat.reduceAdd, Nat.reduceSub, Nat.reduceMul, Nat.reduceLeDiff, Nat.reduceLT, Nat.reduceEqDiff]
      
    | cons z0 zr =>
      simp only [List.map_cons, List.map_nil, subs, List.cons.injEq] at hfo
      simp +contextual -implicitDefEqProofs (maxSteps := 2000000) only [S_cv, gA, gH, e1, List.length_map, List.map_cons, List.map_nil, tk_Vs, Nat.le_refl, hfo, free_Vs, free_Vo, ruB, rh_no, Int.reduceLT, Int.reduceLE, Int.reduceAdd, Int.reduceSub, Int.reduceMul, Int.reduceNeg, Int.reduceToNat, Int.reduceEq, Int.reduceNe, Int.reduceTDiv, Int.reduceTMod, implies_true, putL, appN, appX, appC, Eng.Fi, reduceCtorEq, exists_eq_left', exists_eq_left, if_true, if_false, List.replicate, Nat.reduceAdd, Nat.reduceSub, Nat.reduceMul, Nat.reduceLeDiff, Nat.reduceLT, Nat.reduceEqDiff]
      
theorem k_CopyScans (m : List Vs) (hm0 : m.length ≤ 1000 ∧ ∀ r ∈ m, r.length ≤ 1000) : FOk P 16 [.vs (m.map eVs)] (.vs (m.map eVs)) := k_CopyS0 m m rfl hm0
def cf_CopyScans : List AV → Option AV
  | [.vs m_v] => onL dVs m_v fun m => if m.length ≤ 1000 ∧ ∀ r ∈ m, r.length ≤ 1000 then some (.vs (m.map eVs)) else none
  | _ => none
theorem g_CopyScans : Fn P 16 cf_CopyScans := fun args v hh => by
  unfold cf_CopyScans at hh; split at hh
  · obtain ⟨m, rfl, hh1⟩ := onL_inv dVs_inv hh
    split at hh1
    · rename_i hc; have hk := Option.some.inj hh1; subst hk; exact k_CopyScans _ hc
    · cases hh1
  · cases hh
theorem x_CopyScans (m : List Vs) (hc : (m.length ≤ 1000 ∧ ∀ r ∈ m, r.length ≤ 1000) = True) : cf_CopyScans [.vs (m.map eVs)] = some (.vs (m.map eVs)) := by
  simp only [cf_CopyScans, onL_map dVs_e]
  exact if_pos (by rw [hc]; trivial)
end Wa
