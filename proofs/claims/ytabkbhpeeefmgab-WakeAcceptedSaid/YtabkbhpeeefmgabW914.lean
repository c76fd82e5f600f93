import Derived.Test.YtabkbhpeeefmgabEngS9
import Derived.Test.YtabkbhpeeefmgabW913
open Go Go.Proofs Eng
set_option maxRecDepth 100000
set_option linter.unusedSimpArgs false
set_option linter.unusedVariables false
def a7 : AC := .seq (.ops false [] [⟨some 2, .p (.mov), [.c (.bool false)], none⟩]) (.seq (.seq (.ops false [] [⟨some 4, .p (.mov), [.t 0], none⟩, ⟨some 5, .p (.lenS), [.t 4], none⟩, ⟨some 6, .p (.binI .gtr), [.t 5, .c (.int .i64 8)], none⟩]) (.cond (.t 6) (.seq (.ops false [] [⟨some 2, .p (.mov), [.c (.bool false)], none⟩]) (.ret)) (.skip))) (.seq (.seq (.ops false [] [⟨some 3, .p (.mov), [.c (.int .i64 0)], none⟩]) (.block 0 (.loop (.seq (.seq (.ops false [] [⟨some 7, .p (.mov), [.t 3], none⟩, ⟨some 8, .p (.mov), [.t 0], none⟩, ⟨some 9, .p (.lenS), [.t 8], none⟩, ⟨some 10, .p (.binI .lss), [.t 7, .t 9], none⟩]) (.cond (.t 10) (.skip) (.exit 0))) (.seq (.block 1 (.seq (.ops false [] [⟨some 13, .p (.mov), [.t 0], none⟩, ⟨some 14, .p (.mov), [.t 3], none⟩, ⟨some 15, .p (.iaddrS 1), [.t 13, .t 14], none⟩, ⟨some 16, .load 1 false, [.t 15], none⟩, ⟨some 17, .p (.lenS), [.t 16], none⟩, ⟨some 18, .p (.binI .gtr), [.t 17, .c (.int .i64 8)], none⟩]) (.cond (.t 18) (.seq (.ops false [] [⟨some 2, .p (.mov), [.c (.bool false)], none⟩]) (.ret)) (.skip)))) (.ops false [] [⟨some 11, .p (.mov), [.t 3], none⟩, ⟨some 12, .p (.binI .add), [.t 11, .c (.int .i64 1)], none⟩, ⟨some 3, .p (.mov), [.t 12], none⟩])))))) (.seq (.ops false [] [⟨some 19, .p (.mov), [.t 0], none⟩, ⟨some 20, .call 21, [.t 19], none⟩, ⟨some 21, .p (.binI .neq), [.t 20, .c (.int .i64 0)], none⟩, ⟨some 22, .p (.mov), [.t 21], none⟩, ⟨some 23, .p (.mov), [.t 0], some (22, false)⟩, ⟨some 24, .p (.lenS), [.t 23], some (22, false)⟩, ⟨some 25, .p (.binI .leq), [.t 24, .c (.int .i64 5)], some (22, false)⟩, ⟨some 26, .p (.pick), [.t 22, .c (.bool true), .t 25], none⟩, ⟨some 2, .p (.mov), [.t 26], none⟩]) (.ret))))
theorem c7 : FnC Try.prog 7 27 a7 [.tmp 2] := ⟨Try.call7, _, _, Try.func7, rfl, by kernel_rfl, by kernel_rfl, rfl⟩
def a9 : AC := .seq (.ops false [] [⟨some 2, .p (.mov), [.c (.nilslice)], none⟩]) (.seq (.ops false [] [⟨some 3, .p (.mov), [.c (.nilslice)], none⟩]) (.seq (.seq (.ops false [] [⟨some 4, .p (.mov), [.c (.int .i64 0)], none⟩]) (.block 0 (.loop (.seq (.seq (.ops false [] [⟨some 5, .p (.mov), [.t 4], none⟩, ⟨some 6, .p (.mov), [.t 0], none⟩, ⟨some 7, .p (.lenS), [.t 6], none⟩, ⟨some 8, .p (.binI .lss), [.t 5, .t 7], none⟩]) (.cond (.t 8) (.skip) (.exit 0))) (.seq (.block 1 (.ops false [] [⟨some 11, .p (.mov), [.t 3], none⟩, ⟨some 12, .p (.mov), [.t 0], none⟩, ⟨some 13, .p (.mov), [.t 4], none⟩, ⟨some 14, .p (.iaddrS 1), [.t 12, .t 13], none⟩, ⟨some 15, .load 1 false, [.t 14], none⟩, ⟨some 16, .call 48, [.t 15], none⟩, ⟨some 17, .fbs 1, [.t 16], none⟩, ⟨some 18, .app 23 1 24, [.t 11, .t 17], none⟩, ⟨some 3, .p (.mov), [.t 18], none⟩])) (.ops false [] [⟨some 9, .p (.mov), [.t 4], none⟩, ⟨some 10, .p (.binI .add), [.t 9, .c (.int .i64 1)], none⟩, ⟨some 4, .p (.mov), [.t 10], none⟩])))))) (.seq (.ops false [] [⟨some 19, .p (.mov), [.t 3], none⟩, ⟨some 2, .p (.mov), [.t 19], none⟩]) (.ret))))
theorem c9 : FnC Try.prog 9 20 a9 [.tmp 2] := ⟨Try.call9, _, _, Try.func9, rfl, by kernel_rfl, by kernel_rfl, rfl⟩
namespace Wa
end Wa
open Go Go.Proofs Eng
set_option maxRecDepth 100000
set_option linter.unusedSimpArgs false
set_option linter.unusedVariables false
namespace Wa
def smP (m : List L) : Prop := m.length ≤ 8 ∧ (∀ r ∈ m, r.length ≤ 8) ∧ (¬ (cmV m).2 = 0 ∨ m.length ≤ 5)
instance (m : List L) : Decidable (smP m) := by unfold smP; infer_instance
def S_sm (m : List L) (k : Nat) : AState := ⟨[.vs (m.map eL), .any, .any, I k, .any, .any, .any, .any, .any, .any, .any, .any, .any, .any, .any, .any, .any, .any, .any, .any, .any, .any, .any, .any, .any, .any, .any], [], 0⟩
theorem k_small6 (m : List L) : FOk P 7 [.vs (m.map eL)] (.bool (decide (smP m))) := by
  by_cases h8 : 8 < m.length
  · have h8' : ((8 : Int) < (m.length : Int)) = True := eq_true (by omega)
    have hs : decide (smP m) = false := decide_eq_false fun q => by have := q.1; omega
    rw [hs]
    refine c7.fok (by simp only [subs, sub1, free_L]) (Cor.run (addC_good g_rMatrixErr (noC_good _)) (noHx_good _) hm ?_)
    simp +contextual -implicitDefEqProofs (maxSteps := 2000000) only [bg_eq, a7, List.length_map, h8', ruB, rh_no, Int.reduceLT, Int.reduceLE, Int.reduceAdd, Int.reduceSub, Int.reduceMul, Int.reduceNeg, Int.reduceToNat, Int.reduceEq, Int.reduceNe, Int.reduceTDiv, Int.reduceTMod, implies_true, putL, appN, appX, appC, Eng.Fi, reduceCtorEq, exists_eq_left', exists_eq_left, if_true, if_false, List.replicate, Nat.reduceAdd, Nat.reduceSub, Nat.reduceMul, Nat.reduceLeDiff, Nat.reduceLT, Nat.reduceEqDiff]
  · have h8' : ((8 : Int) < (m.length : Int)) = False := eq_false (by omega)
    refine c7.fok (by simp only [subs, sub1, free_L]) (Cor.run (addC_good g_rMatrixErr (noC_good _)) (noHx_good _) hm ?_)
    simp +contextual -implicitDefEqProofs (maxSteps := 2000000) only [bg_eq, a7, List.length_map, h8', Int.natCast_zero, ruB, rh_no, Int.reduceLT, Int.reduceLE, Int.reduceAdd, Int.reduceSub, Int.reduceMul, Int.reduceNeg, Int.reduceToNat, Int.reduceEq, Int.reduceNe, Int.reduceTDiv, Int.reduceTMod, implies_true, putL, appN, appX, appC, Eng.Fi, reduceCtorEq, exists_eq_left', exists_eq_left, if_true, if_false, List.replicate, Nat.reduceAdd, Nat.reduceSub, Nat.reduceMul, Nat.reduceLeDiff, Nat.reduceLT, Nat.reduceEqDiff]
    refine Cor.lp (addC_good g_rMatrixErr (noC_good _)) (noHx_good _) hm (S_sm m) (fun k => k ≤ m.length ∧ ∀ r ∈ m.take k, r.length ≤ 8) (fun k => m.length - k) (a := 0) ⟨Nat.zero_le _, by simp⟩ (Wkn.keep [0, 3] rfl) ?_
    rintro f k ⟨hk, hf⟩ go
    rcases Nat.lt_or_ge k m.length with h | h
    · have e1 : decide ((k : Int) < (m.length : Int)) = true := lt_t h
      have e2 : (m.map eL)[k]? = some (eL m[k]) := get_e eL m h
      have e3 : IntKind.wrap .i64 ((k : Int) + 1) = ((k + 1 : Nat) : Int) := suc_w (by omega)
      have hmem : m[k] ∈ m := by simp
      have htk := List.take_succ_eq_append_getElem h
      generalize m[k] = r at *
      by_cases c1 : 8 < r.length
      · have c1' : ((8 : Int) < (r.length : Int)) = True := eq_true (by omega)
        have hs : decide (smP m) = false := decide_eq_false fun q => by have := q.2.1 r hmem; omega
        rw [hs]
        simp +contextual -implicitDefEqProofs (maxSteps := 2000000) only [S_sm, e1, e2, e3, c1', List.length_map, ruB, rh_no, Int.reduceLT, Int.reduceLE, Int.reduceAdd, Int.reduceSub, Int.reduceMul, Int.reduceNeg, Int.reduceToNat, Int.reduceEq, Int.reduceNe, Int.reduceTDiv, Int.reduceTMod, implies_true, putL, appN, appX, appC, Eng.Fi, reduceCtorEq, exists_eq_left', exists_eq_left, if_true, if_false, List.replicate, Nat.reduceAdd, Nat.reduceSub, Nat.reduceMul, Nat.reduceLeDiff, Nat.reduceLT, Nat.reduceEqDiff]
      · have c1' : ((8 : Int) < (r.length : Int)) = False := eq_false (by omega)
        simp +contextual -implicitDefEqProofs (maxSteps := 2000000) only [S_sm, e1, e2, e3, c1', List.length_map, ruB, rh_no, Int.reduceLT, Int.reduceLE, Int.reduceAdd, Int.reduceSub, Int.reduceMul, Int.reduceNeg, Int.reduceToNat, Int.reduceEq, Int.reduceNe, Int.reduceTDiv, Int.reduceTMod, implies_true, putL, appN, appX, appC, Eng.Fi, reduceCtorEq, exists_eq_left', exists_eq_left, if_true, if_false, List.replicate, Nat.reduceAdd, Nat.reduceSub, Nat.reduceMul, Nat.reduceLeDiff, Nat.reduceLT, Nat.reduceEqDiff]
        refine go _ (k + 1) ⟨h, fun x hx => ?_⟩ (by omega) (Wkn.keep [0, 3] rfl)
        rw [htk] at hx
        rcases List.mem_append.1 hx with hx | hx
        · exact hf x hx
        · rw [List.mem_singleton.1 hx]; omega
    · have e1 : decide ((k : Int) < (m.length : Int)) = false := lt_f h
      rw [List.take_of_length_le h] at hf
      have hs : decide (smP m) = decide (¬ (cmV m).2 = 0 ∨ (m.length : Int) ≤ 5) := decide_eq_decide.2 ⟨fun q => q.2.2.imp id (fun q => by omega), fun q => ⟨by omega, hf, q.imp id (fun q => by omega)⟩⟩
      have y := x_rMatrixErr m (by simp only [eq_iff_iff, iff_true]; exact ⟨by omega, fun r hr => by have := hf r hr; omega⟩)
      rw [hs]
      simp +contextual -implicitDefEqProofs (maxSteps := 2000000) only [S_sm, e1, y, List.length_map, ruB, rh_no, Int.reduceLT, Int.reduceLE, Int.reduceAdd, Int.reduceSub, Int.reduceMul, Int.reduceNeg, Int.reduceToNat, Int.reduceEq, Int.reduceNe, Int.reduceTDiv, Int.reduceTMod, implies_true, putL, appN, appX, appC, Eng.Fi, reduceCtorEq, exists_eq_left', exists_eq_left, if_true, if_false, List.replicate, Nat.reduceAdd, Nat.reduceSub, Nat.reduceMul, Nat.reduceLeDiff, Nat.reduceLT, Nat.reduceEqDiff]
def cf_small6 : List AV → Option AV
  | [.vs m_v] => onL dL m_v fun m => some (.bool (decide (smP m)))
  | _ => none
theorem g_small6 : Fn P 7 cf_small6 := fun args v hh => by
  unfold cf_small6 at hh; split at hh
  · obtain ⟨m, rfl, hh1⟩ := onL_inv dL_inv hh
    have hk := Option.some.inj hh1; subst hk; exact k_small6 _
  · cases hh
theorem x_small6 (m : List L) : cf_small6 [.vs (m.map eL)] = some (.bool (decide (smP m))) := by
  simp only [cf_small6, onL_map dL_e]
def S_cy (m out : List L) (k : Nat) : AState := ⟨[.vs (m.map eL), .any, .any, gA 0 1 (out.map eL), I k, .any, .any, .any, .any, .any, .any, .any, .any, .any, .any, .any, .any, .any, .any, .any], gH 0 23 1 (out.map eL), 1⟩
theorem k_CopyM0 (m R : List L) (hR : R = m) (hm0 : m.length ≤ 1000 ∧ ∀ r ∈ m, r.length ≤ 1000) : FOk P 9 [.vs (m.map eL)] (.vs (R.map eL)) := by
  obtain ⟨hl, hr⟩ := hm0
  refine c9.fok (by simp only [subs, sub1, free_L]) (Cor.run (addC_good g_CopyInts (noC_good _)) (noHx_good _) hm ?_)
  simp +contextual -implicitDefEqProofs (maxSteps := 2000000) only [bg_eq, a9, Int.natCast_zero, ruB, rh_no, Int.reduceLT, Int.reduceLE, Int.reduceAdd, Int.reduceSub, Int.reduceMul, Int.reduceNeg, Int.reduceToNat, Int.reduceEq, Int.reduceNe, Int.reduceTDiv, Int.reduceTMod, implies_true, putL, appN, appX, appC, Eng.Fi, reduceCtorEq, exists_eq_left', exists_eq_left, if_true, if_false, List.replicate, Nat.reduceAdd, Nat.reduceSub, Nat.reduceMul, Nat.reduceLeDiff, Nat.reduceLT, Nat.reduceEqDiff]
  refine Cor.lp (addC_good g_CopyInts (noC_good _)) (noHx_good _) hm (fun q : Nat × List L => S_cy m q.2 q.1) (fun q => q.1 ≤ m.length ∧ q.2 = m.take q.1) (fun q => m.length - q.1) (a := (0, [])) ⟨Nat.zero_le _, by simp⟩ (Wkn.to ⟨0, [], [], 1, [0, 3, 4]⟩ rfl rfl (by simp [Wk.st, keepT, memN, Wk.fate, Wk.fate0, assoc, getE, Wk.hp, ABlk.sub, sub1, subs, S_cy, gA, gH, free_L])) ?_
  rintro f ⟨k, out⟩ ⟨hk, ho⟩ go
  simp only at hk ho go ⊢
  have hol : out.length ≤ k := by rw [ho]; simp; omega
  have hfo := fun φ => free_L φ out
  rcases Nat.lt_or_ge k m.length with h | h
  · have e1 : decide ((k : Int) < (m.length : Int)) = true := lt_t h
    have e2 : (m.map eL)[k]? = some (eL m[k]) := get_e eL m h
    have e3 : IntKind.wrap .i64 ((k : Int) + 1) = ((k + 1 : Nat) : Int) := suc_w (by omega)
    have y := x_CopyInts m[k] (by simp only [eq_iff_iff, iff_true]; exact hr _ (by simp))
    have hs : m.take (k + 1) = out ++ [m[k]] := by rw [List.take_succ_eq_append_getElem h, ho]
    obtain ⟨r, hre⟩ : ∃ r, m[k] = r := ⟨_, rfl⟩
    rw [hre] at e2 y hs
    have m1 : (out.length + 1 ≤ maxLen) = True := mx (by omega)
    have m2 : ((out.length + 1) * 24 ≤ 140737488355328) = True := by simp only [eq_iff_iff, iff_true]; omega
    cases out with
    | nil =>
      simp only [List.map_cons, List.map_nil, subs, List.cons.injEq] at hfo
      simp only [List.length_nil, List.length_cons, Nat.zero_add] at m1 m2
      simp +contextual -implicitDefEqProofs (maxSteps := 2000000) only [S_cy, gA, gH, e1, e2, e3, y, rs_nil, rs_t, rs_f, ag_nils, ag_sl, ag_vs, ag_str, ag_ptr, ag_nilp, ag_vp, ag_fun, m1, m2, List.length_map, List.map_cons, List.map_nil, ruB, rh_no, Int.reduceLT, Int.reduceLE, Int.reduceAdd, Int.reduceSub, Int.reduceMul, Int.reduceNeg, Int.reduceToNat, Int.reduceEq, Int.reduceNe, Int.reduceTDiv, Int.reduceTMod, implies_true, putL, appN, appX, appC, Eng.Fi, reduceCtorEq, exists_eq_left', exists_eq_left, if_true, if_false, List.replicate, Nat.reduceAdd, Nat.reduceSub, Nat.reduceMul, Nat.reduceLeDiff, Nat.reduceLT, Nat.reduceEqDiff]
      exact go _ (k + 1, [] ++ [r]) ⟨h, hs.symm⟩ (by simp only; omega) (Wkn.to ⟨0, [(1, 0)], [], 1, [0, 3, 4]⟩ rfl rfl (by simp [Wk.st, keepT, memN, Wk.fate, Wk.fate0, assoc, getE, Wk.hp, ABlk.sub, sub1, subs, S_cy, gA, gH, hfo, free_L, free_I, subs_append]))
      
    | cons z0 zr =>
      simp only [List.map_cons, List.map_nil, subs, List.cons.injEq] at hfo
      simp only [List.length_nil, List.length_cons, Nat.zero_add] at m1 m2
      simp +contextual -implicitDefEqProofs (maxSteps := 2000000) only [S_cy, gA, gH, e1, e2, e3, y, rs_nil, rs_t, rs_f, ag_nils, ag_sl, ag_vs, ag_str, ag_ptr, ag_nilp, ag_vp, ag_fun, m1, m2, List.length_map, List.map_cons, List.map_nil, ruB, rh_no, Int.reduceLT, Int.reduceLE, Int.reduceAdd, Int.reduceSub, Int.reduceMul, Int.reduceNeg, Int.reduceToNat, Int.reduceEq, Int.reduceNe, Int.reduceTDiv, Int.reduceTMod, implies_true, putL, appN, appX, appC, Eng.Fi, reduceCtorEq, exists_eq_left', exists_eq_left, if_true, if_false, List.replicate, Nat.reduceAdd, Nat.reduceSub, Nat.reduceMul, Nat.reduceLeDiff, Nat.reduceLT, Nat.reduceEqDiff]
      exact go _ (k + 1, (z0 :: zr) ++ [r]) ⟨h, hs.symm⟩ (by simp only; omega) (Wkn.to ⟨0, [(1, 0)], [], 1, [0, 3, 4]⟩ rfl rfl (by simp [Wk.st, keepT, memN, Wk.fate, Wk.fate0, assoc, getE, Wk.hp, ABlk.sub, sub1, subs, S_cy, gA, gH, hfo, free_L, free_I, subs_append]))
      
  · have e1 : decide ((k : Int) < (m.length : Int)) = false := lt_f h
    rw [List.take_of_length_le h] at ho
    rw [show R = out from hR.trans ho.symm]
    clear hR ho
    cases out with
    | nil =>
      simp only [List.map_cons, List.map_nil, subs, List.cons.injEq] at hfo
      simp +contextual -implicitDefEqProofs (maxSteps := 2000000) only [S_cy, gA, gH, e1, List.length_map, List.map_cons, List.map_nil, tk_L0, Nat.le_refl, hfo, free_L, free_I, ruB, rh_no, Int.reduceLT, Int.reduceLE, Int.reduceAdd, Int.reduceSub, Int.reduceMul, Int.reduceNeg, Int.reduceToNat, Int.reduceEq, Int.reduceNe, Int.reduceTDiv, Int.reduceTMod, implies_true, putL, appN, appX, appC, Eng.Fi, reduceCtorEq, exists_eq_left', exists_eq_left, if_true, if_false, List.replicate, Nat.reduceAdd, Nat.reduceSub, Nat.reduceMul, Nat.reduceLeDiff, Nat.reduceLT, Nat.reduceEqDiff]
      
    | cons z0 zr =>
      simp only [List.map_cons, List.map_nil, subs, List.cons.injEq] at hfo
      simp +contextual -implicitDefEqProofs (maxSteps := 2000000) only [S_cy, gA, gH, e1, List.length_map, List.map_cons, List.map_nil, tk_L0, Nat.le_refl, hfo, free_L, free_I, ruB, rh_no, Int.reduceLT, Int.reduceLE, Int.reduceAdd, Int.reduceSub, Int.reduceMul, Int.reduceNeg, Int.reduceToNat, Int.reduceEq, Int.reduceNe, Int.reduceTDiv, Int.reduceTMod, implies_true, putL, appN, appX, appC, Eng.Fi, reduceCtorEq, exists_eq_left', exists_eq_left, if_true, if_false, List.replicate, Nat.reduceAdd, Nat.reduceSub, Nat.reduceMul, Nat.reduceLeDiff, Nat.reduceLT, Nat.reduceEqDiff]
      
theorem k_CopyMatrix (m : List L) (hm0 : m.length ≤ 1000 ∧ ∀ r ∈ m, r.length ≤ 1000) : FOk P 9 [.vs (m.map eL)] (.vs (m.map eL)) := k_CopyM0 m m rfl hm0
def cf_CopyMatrix : List AV → Option AV
  | [.vs m_v] => onL dL m_v fun m => if m.length ≤ 1000 ∧ ∀ r ∈ m, r.length ≤ 1000 then some (.vs (m.map eL)) else none
  | _ => none
theorem g_CopyMatrix : Fn P 9 cf_CopyMatrix := fun args v hh => by
  unfold cf_CopyMatrix at hh; split at hh
  · obtain ⟨m, rfl, hh1⟩ := onL_inv dL_inv hh
    split at hh1
    · rename_i hc; have hk := Option.some.inj hh1; subst hk; exact k_CopyMatrix _ hc
    · cases hh1
  · cases hh
theorem x_CopyMatrix (m : List L) (hc : (m.length ≤ 1000 ∧ ∀ r ∈ m, r.length ≤ 1000) = True) : cf_CopyMatrix [.vs (m.map eL)] = some (.vs (m.map eL)) := by
  simp only [cf_CopyMatrix, onL_map dL_e]
  exact if_pos (by rw [hc]; trivial)
end Wa
