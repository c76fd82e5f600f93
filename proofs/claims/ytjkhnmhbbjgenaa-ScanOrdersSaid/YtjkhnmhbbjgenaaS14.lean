import Derived.Test.YtjkhnmhbbjgenaaEngS9
import Derived.Test.YtjkhnmhbbjgenaaS13
open Go Go.Proofs Eng
set_option maxRecDepth 100000
set_option linter.unusedSimpArgs false
set_option linter.unusedVariables false
def a52 : AC := .seq (.ops false [] [⟨some 4, .p (.mov), [.c (.bool false)], none⟩]) (.seq (.seq (.ops false [] [⟨some 6, .p (.mov), [.t 0], none⟩, ⟨some 7, .p (.lenS), [.t 6], none⟩, ⟨some 8, .p (.mov), [.t 1], none⟩, ⟨some 9, .p (.lenS), [.t 8], none⟩, ⟨some 10, .p (.binI .neq), [.t 7, .t 9], none⟩]) (.cond (.t 10) (.seq (.ops false [] [⟨some 4, .p (.mov), [.c (.bool false)], none⟩]) (.ret)) (.skip))) (.seq (.seq (.ops false [] [⟨some 5, .p (.mov), [.c (.int .i64 0)], none⟩]) (.block 0 (.loop (.seq (.seq (.ops false [] [⟨some 11, .p (.mov), [.t 5], none⟩, ⟨some 12, .p (.mov), [.t 0], none⟩, ⟨some 13, .p (.lenS), [.t 12], none⟩, ⟨some 14, .p (.binI .lss), [.t 11, .t 13], none⟩]) (.cond (.t 14) (.skip) (.exit 0))) (.seq (.block 1 (.seq (.ops true [] [⟨some 17, .p (.mov), [.t 0], none⟩, ⟨some 18, .p (.mov), [.t 5], none⟩, ⟨some 19, .p (.iaddrS 1), [.t 17, .t 18], none⟩, ⟨some 20, .load 1 false, [.t 19], none⟩, ⟨some 21, .p (.mov), [.t 1], none⟩, ⟨some 22, .p (.mov), [.t 5], none⟩, ⟨some 23, .p (.iaddrS 1), [.t 21, .t 22], none⟩, ⟨some 24, .load 1 false, [.t 23], none⟩, ⟨some 25, .p (.binI .neq), [.t 20, .t 24], none⟩]) (.cond (.t 25) (.seq (.ops false [] [⟨some 4, .p (.mov), [.c (.bool false)], none⟩]) (.ret)) (.skip)))) (.ops false [] [⟨some 15, .p (.mov), [.t 5], none⟩, ⟨some 16, .p (.binI .add), [.t 15, .c (.int .i64 1)], none⟩, ⟨some 5, .p (.mov), [.t 16], none⟩])))))) (.seq (.ops false [] [⟨some 4, .p (.mov), [.c (.bool true)], none⟩]) (.ret))))
theorem c52 : FnC Try.prog 52 26 a52 [.tmp 4] := ⟨Try.call52, _, _, Try.func52, rfl, by kernel_rfl, by kernel_rfl, rfl⟩
def a72 : AC := .seq (.ops false [] [⟨some 0, .alloc 39 2 [.agg [.int .i64 0, .int .i64 0]], [], none⟩]) (.seq (.ops false [] [⟨some 1, .p (.build [.int .i64 0, .int .i64 0] [(0, 1), (1, 1)]), [.c (.int .i64 3), .c (.int .i64 1)], none⟩, ⟨none, .store 2 true, [.t 0, .t 1], none⟩]) (.ret))
theorem c72 : FnC Try.prog 72 2 a72 [.cell 0 2 true] := ⟨Try.call72, _, _, Try.func72, rfl, by kernel_rfl, by kernel_rfl, rfl⟩
def a73 : AC := .seq (.ops false [] [⟨some 0, .alloc 42 7 [.agg [.int .i64 0, .int .i64 0, .int .i64 0, .int .i64 0, .int .i64 0, .int .i64 0, .nilslice]], [], none⟩]) (.seq (.ops false [] [⟨some 1, .call 72, [], none⟩, ⟨some 2, .call 72, [], none⟩, ⟨some 3, .p (.build [.int .i64 0, .int .i64 0, .int .i64 0, .int .i64 0, .int .i64 0, .int .i64 0, .nilslice] [(2, 2), (4, 2)]), [.t 1, .t 2], none⟩, ⟨none, .store 7 true, [.t 0, .t 3], none⟩]) (.ret))
theorem c73 : FnC Try.prog 73 4 a73 [.cell 0 7 true] := ⟨Try.call73, _, _, Try.func73, rfl, by kernel_rfl, by kernel_rfl, rfl⟩
def a74 : AC := .seq (.ops false [] [⟨some 0, .p (.mov), [.c (.nilslice)], none⟩]) (.seq (.ops false [] [⟨some 1, .p (.build [.int .i64 0, .int .i64 0, .int .i64 0, .int .i64 0, .int .i64 0, .int .i64 0, .int .i64 0, .nilslice] [(0, 1), (5, 1)]), [.c (.int .i64 0), .c (.int .i64 2)], none⟩, ⟨some 2, .p (.build [.int .i64 0, .int .i64 0] [(0, 1), (1, 1)]), [.c (.int .i64 10), .c (.int .i64 5)], none⟩, ⟨some 3, .p (.build [.int .i64 0, .int .i64 0, .int .i64 0, .int .i64 0, .int .i64 0, .int .i64 0, .int .i64 0, .nilslice] [(0, 1), (1, 2), (3, 1), (4, 1), (5, 1)]), [.c (.int .i64 1), .t 2, .c (.int .i64 30), .c (.int .i64 10), .c (.int .i64 1)], none⟩, ⟨some 4, .p (.build [.int .i64 0, .int .i64 0] [(1, 1)]), [.c (.int .i64 90)], none⟩, ⟨some 5, .p (.build [.int .i64 0, .int .i64 0, .int .i64 0, .int .i64 0, .int .i64 0, .int .i64 0, .int .i64 0, .nilslice] [(0, 1), (1, 2), (5, 1)]), [.c (.int .i64 0), .t 4, .c (.int .i64 1)], none⟩, ⟨some 6, .bsl 73 8, [.t 5], none⟩, ⟨some 7, .p (.build [.int .i64 0, .int .i64 0, .int .i64 0, .int .i64 0, .int .i64 0, .int .i64 0, .int .i64 0, .nilslice] [(0, 1), (6, 1), (7, 1)]), [.c (.int .i64 2), .c (.int .i64 2), .t 6], none⟩, ⟨some 8, .bsl 73 8, [.t 1, .t 3, .t 7], none⟩, ⟨some 0, .p (.mov), [.t 8], none⟩]) (.ret))
theorem c74 : FnC Try.prog 74 9 a74 [.tmp 0] := ⟨Try.call74, _, _, Try.func74, rfl, by kernel_rfl, by kernel_rfl, rfl⟩
namespace Sc
theorem k_wAxis : FOk P 72 [] (.agg [I 3, I 1]) := by
  refine c72.fok rfl (Cor.run (noC_good _) (noHx_good _) hm ?_)
  simp +contextual -implicitDefEqProofs (maxSteps := 2000000) only [bg_eq, a72, ruB, rh_no, Int.reduceLT, Int.reduceLE, Int.reduceAdd, Int.reduceSub, Int.reduceMul, Int.reduceNeg, Int.reduceToNat, Int.reduceEq, Int.reduceNe, Int.reduceTDiv, Int.reduceTMod, implies_true, putL, appN, appX, appC, Eng.Fi, reduceCtorEq, exists_eq_left', exists_eq_left, if_true, if_false, List.replicate, Nat.reduceAdd, Nat.reduceSub, Nat.reduceMul, Nat.reduceLeDiff, Nat.reduceLT, Nat.reduceEqDiff]
def cf_wAxis : List AV → Option AV
  | [] => some (.agg [.int .i64 3, .int .i64 1])
  | _ => none
theorem g_wAxis : Fn P 72 cf_wAxis := fun args v h => by
  unfold cf_wAxis at h; split at h
  · have h := Option.some.inj h; subst h; exact k_wAxis 
  · cases h
theorem x_wAxis : cf_wAxis [] = some (.agg [.int .i64 3, .int .i64 1]) := rfl
def aHd : Hd := ⟨⟨0, 0⟩, 3, 1, 3, 1, []⟩
theorem k_wHead : FOk P 73 [] (.agg [I 0, I 0, I 3, I 1, I 3, I 1, .vs []]) := by
  refine FOk.nv (v := .agg [I 0, I 0, I 3, I 1, I 3, I 1, .nilslice]) ?_ rfl
  refine c73.fok rfl (Cor.run (addC_good g_wAxis (noC_good _)) (noHx_good _) hm ?_)
  simp +contextual -implicitDefEqProofs (maxSteps := 2000000) only [bg_eq, a73, x_wAxis, ruB, rh_no, Int.reduceLT, Int.reduceLE, Int.reduceAdd, Int.reduceSub, Int.reduceMul, Int.reduceNeg, Int.reduceToNat, Int.reduceEq, Int.reduceNe, Int.reduceTDiv, Int.reduceTMod, implies_true, putL, appN, appX, appC, Eng.Fi, reduceCtorEq, exists_eq_left', exists_eq_left, if_true, if_false, List.replicate, Nat.reduceAdd, Nat.reduceSub, Nat.reduceMul, Nat.reduceLeDiff, Nat.reduceLT, Nat.reduceEqDiff]
def cf_wHead : List AV → Option AV
  | [] => some (.agg [.int .i64 0, .int .i64 0, .int .i64 3, .int .i64 1, .int .i64 3, .int .i64 1, .vs []])
  | _ => none
theorem g_wHead : Fn P 73 cf_wHead := fun args v h => by
  unfold cf_wHead at h; split at h
  · have h := Option.some.inj h; subst h; exact k_wHead 
  · cases h
theorem x_wHead : cf_wHead [] = some (.agg [.int .i64 0, .int .i64 0, .int .i64 3, .int .i64 1, .int .i64 3, .int .i64 1, .vs []]) := rfl
def aSt : Sps := [.mk 0 ⟨0, 0⟩ 0 0 2 0 [], .mk 1 ⟨10, 5⟩ 30 10 1 0 [], .mk 2 ⟨0, 0⟩ 0 0 0 2 [.mk 0 ⟨0, 90⟩ 0 0 1 0 []]]
def eB : AV := .agg [I 0, I 0, I 90, I 0, I 0, I 1, I 0, .nilslice]
def S74 : AState := ⟨[.any, .agg [I 0, I 0, I 0, I 0, I 0, I 2, I 0, .nilslice], .any, .agg [I 1, I 10, I 5, I 30, I 10, I 1, I 0, .nilslice], .any, .any, .vs [eB], .any, .any], [], 0⟩
theorem k_wSteps0 : FOk P 74 [] (.vs [.agg [I 0, I 0, I 0, I 0, I 0, I 2, I 0, .nilslice], .agg [I 1, I 10, I 5, I 30, I 10, I 1, I 0, .nilslice], .agg [I 2, I 0, I 0, I 0, I 0, I 0, I 2, .vs [eB]]]) := by
  refine c74.fok (y := YH P noHx) rfl ?_
  rw [bg_eq]
  refine Cor.seq (Cor.run (noC_good _) (noHx_good _) hm ?_)
  simp +contextual -implicitDefEqProofs (maxSteps := 2000000) only [eThen_normal, ruH, ruB, Int.reduceLT, Int.reduceLE, Int.reduceAdd, Int.reduceSub, Int.reduceMul, Int.reduceNeg, Int.reduceToNat, Int.reduceEq, Int.reduceNe, Int.reduceTDiv, Int.reduceTMod, implies_true, putL, appN, appX, appC, Eng.Fi, reduceCtorEq, exists_eq_left', exists_eq_left, if_true, if_false, List.replicate, Nat.reduceAdd, Nat.reduceSub, Nat.reduceMul, Nat.reduceLeDiff, Nat.reduceLT, Nat.reduceEqDiff]
  refine Cor.seq (Cor.opsW (cs := noC) (hx := noHx) (noC_good _) (noHx_good _) 6 (by decide) ?_)
  simp +contextual -implicitDefEqProofs (maxSteps := 2000000) only [okN, ruH, ruB, Int.reduceLT, Int.reduceLE, Int.reduceAdd, Int.reduceSub, Int.reduceMul, Int.reduceNeg, Int.reduceToNat, Int.reduceEq, Int.reduceNe, Int.reduceTDiv, Int.reduceTMod, implies_true, putL, appN, appX, appC, Eng.Fi, reduceCtorEq, exists_eq_left', exists_eq_left, if_true, if_false, List.replicate, Nat.reduceAdd, Nat.reduceSub, Nat.reduceMul, Nat.reduceLeDiff, Nat.reduceLT, Nat.reduceEqDiff]
  refine ⟨S74, Wkn.to ⟨0, [], [0], 0, [1, 3, 6]⟩ rfl rfl (by simp [Wk.st, keepT, memN, Wk.fate, Wk.fate0, assoc, getE, Wk.hp, ABlk.sub, sub1, subs, S74, eB]), ?_⟩
  simp +contextual -implicitDefEqProofs (maxSteps := 2000000) only [S74, eB, okN, eThen_normal, ruH, ruB, Int.reduceLT, Int.reduceLE, Int.reduceAdd, Int.reduceSub, Int.reduceMul, Int.reduceNeg, Int.reduceToNat, Int.reduceEq, Int.reduceNe, Int.reduceTDiv, Int.reduceTMod, implies_true, putL, appN, appX, appC, Eng.Fi, reduceCtorEq, exists_eq_left', exists_eq_left, if_true, if_false, List.replicate, Nat.reduceAdd, Nat.reduceSub, Nat.reduceMul, Nat.reduceLeDiff, Nat.reduceLT, Nat.reduceEqDiff]
  refine Cor.run (noC_good _) (noHx_good _) hm ?_
  simp +contextual -implicitDefEqProofs (maxSteps := 2000000) only [ruH, ruB, Int.reduceLT, Int.reduceLE, Int.reduceAdd, Int.reduceSub, Int.reduceMul, Int.reduceNeg, Int.reduceToNat, Int.reduceEq, Int.reduceNe, Int.reduceTDiv, Int.reduceTMod, implies_true, putL, appN, appX, appC, Eng.Fi, reduceCtorEq, exists_eq_left', exists_eq_left, if_true, if_false, List.replicate, Nat.reduceAdd, Nat.reduceSub, Nat.reduceMul, Nat.reduceLeDiff, Nat.reduceLT, Nat.reduceEqDiff]
theorem k_wSteps : FOk P 74 [] (.vs (eSps aSt)) := k_wSteps0.nv (by simp only [Eng.nv, nvs, aSt, eSps, eSp, eB])
def cf_wSteps : List AV → Option AV
  | [] => some (.vs (eSps aSt))
  | _ => none
theorem g_wSteps : Fn P 74 cf_wSteps := fun args v h => by
  unfold cf_wSteps at h; split at h
  · have h := Option.some.inj h; subst h; exact k_wSteps 
  · cases h
theorem x_wSteps : cf_wSteps [] = some (.vs (eSps aSt)) := rfl
def S52 (l m : List Int) (n : Nat) : AState := ⟨[.vs (l.map eI), .vs (m.map eI), .any, .any, .any, I n, .any, .any, .any, .any, .any, .any, .any, .any, .any, .any, .any, .any, .any, .any, .any, .any, .any, .any, .any, .any], [], 0⟩
theorem k_Ints (l m : List Int) (hl : l.length ≤ 1000) : FOk P 52 [.vs (l.map eI), .vs (m.map eI)] (.bool (decide (l = m))) := by
  by_cases hlm : l.length = m.length
  · refine c52.fok (by simp only [subs, sub1, free_I]) (Cor.run (noC_good _) (noHx_good _) hm ?_)
    have h0 : ((l.length : Int) = (m.length : Int)) = True := by simp [hlm]
    simp +contextual -implicitDefEqProofs (maxSteps := 2000000) only [bg_eq, a52, List.length_map, h0, not_true_eq_false, ruB, rh_no, Int.reduceLT, Int.reduceLE, Int.reduceAdd, Int.reduceSub, Int.reduceMul, Int.reduceNeg, Int.reduceToNat, Int.reduceEq, Int.reduceNe, Int.reduceTDiv, Int.reduceTMod, implies_true, putL, appN, appX, appC, Eng.Fi, reduceCtorEq, exists_eq_left', exists_eq_left, if_true, if_false, List.replicate, Nat.reduceAdd, Nat.reduceSub, Nat.reduceMul, Nat.reduceLeDiff, Nat.reduceLT, Nat.reduceEqDiff]
    refine Cor.lp (noC_good _) (noHx_good _) hm (S52 l m) (fun n => n ≤ l.length ∧ l.take n = m.take n) (fun n => l.length - n) (a := 0) ⟨Nat.zero_le _, by simp⟩ (Wkn.keep [0, 1, 5] rfl) ?_
    intro f n ⟨hn, hf⟩ go
    rcases Nat.lt_or_ge n l.length with h | h
    · have e1 : decide ((n : Int) < (l.length : Int)) = true := lt_t h
      have e2 : (l.map eI)[n]? = some (eI l[n]) := get_e eI l h
      have e3 : IntKind.wrap .i64 ((n : Int) + 1) = ((n + 1 : Nat) : Int) := suc_w (by omega)
      have hmn : n < m.length := by omega
      have e4 : (m.map eI)[n]? = some (eI m[n]) := get_e eI m hmn
      by_cases hc : l[n] = m[n]
      · simp +contextual -implicitDefEqProofs (maxSteps := 2000000) only [S52, e1, e2, e3, e4, hc, List.length_map, not_true_eq_false, ruB, rh_no, Int.reduceLT, Int.reduceLE, Int.reduceAdd, Int.reduceSub, Int.reduceMul, Int.reduceNeg, Int.reduceToNat, Int.reduceEq, Int.reduceNe, Int.reduceTDiv, Int.reduceTMod, implies_true, putL, appN, appX, appC, Eng.Fi, reduceCtorEq, exists_eq_left', exists_eq_left, if_true, if_false, List.replicate, Nat.reduceAdd, Nat.reduceSub, Nat.reduceMul, Nat.reduceLeDiff, Nat.reduceLT, Nat.reduceEqDiff]
        refine go _ (n + 1) ⟨h, ?_⟩ (by omega) (Wkn.keep [0, 1, 5] rfl)
        rw [List.take_succ_eq_append_getElem h, List.take_succ_eq_append_getElem hmn, hf, hc]
      · have hne : l ≠ m := fun e => hc (by subst e; rfl)
        rw [decide_eq_false hne]
        simp +contextual -implicitDefEqProofs (maxSteps := 2000000) only [S52, e1, e2, e3, e4, hc, List.length_map, not_false_eq_true, ruB, rh_no, Int.reduceLT, Int.reduceLE, Int.reduceAdd, Int.reduceSub, Int.reduceMul, Int.reduceNeg, Int.reduceToNat, Int.reduceEq, Int.reduceNe, Int.reduceTDiv, Int.reduceTMod, implies_true, putL, appN, appX, appC, Eng.Fi, reduceCtorEq, exists_eq_left', exists_eq_left, if_true, if_false, List.replicate, Nat.reduceAdd, Nat.reduceSub, Nat.reduceMul, Nat.reduceLeDiff, Nat.reduceLT, Nat.reduceEqDiff]
    · have e1 : decide ((n : Int) < (l.length : Int)) = false := lt_f h
      rw [List.take_of_length_le h, List.take_of_length_le (by omega)] at hf
      rw [decide_eq_true hf]
      simp +contextual -implicitDefEqProofs (maxSteps := 2000000) only [S52, e1, List.length_map, ruB, rh_no, Int.reduceLT, Int.reduceLE, Int.reduceAdd, Int.reduceSub, Int.reduceMul, Int.reduceNeg, Int.reduceToNat, Int.reduceEq, Int.reduceNe, Int.reduceTDiv, Int.reduceTMod, implies_true, putL, appN, appX, appC, Eng.Fi, reduceCtorEq, exists_eq_left', exists_eq_left, if_true, if_false, List.replicate, Nat.reduceAdd, Nat.reduceSub, Nat.reduceMul, Nat.reduceLeDiff, Nat.reduceLT, Nat.reduceEqDiff]
  · have hne : l ≠ m := fun e => hlm (by rw [e])
    have h0 : ((l.length : Int) = (m.length : Int)) = False := by simp only [eq_iff_iff, iff_false]; omega
    rw [decide_eq_false hne]
    refine c52.fok (by simp only [subs, sub1, free_I]) (Cor.run (noC_good _) (noHx_good _) hm ?_)
    simp +contextual -implicitDefEqProofs (maxSteps := 2000000) only [bg_eq, a52, List.length_map, h0, not_false_eq_true, ruB, rh_no, Int.reduceLT, Int.reduceLE, Int.reduceAdd, Int.reduceSub, Int.reduceMul, Int.reduceNeg, Int.reduceToNat, Int.reduceEq, Int.reduceNe, Int.reduceTDiv, Int.reduceTMod, implies_true, putL, appN, appX, appC, Eng.Fi, reduceCtorEq, exists_eq_left', exists_eq_left, if_true, if_false, List.replicate, Nat.reduceAdd, Nat.reduceSub, Nat.reduceMul, Nat.reduceLeDiff, Nat.reduceLT, Nat.reduceEqDiff]
def cf_Ints : List AV → Option AV
  | [.vs l_v, .vs m_v] => onL dI l_v fun l => onL dI m_v fun m => if l.length ≤ 1000 then some (.bool (decide (l = m))) else none
  | _ => none
theorem g_Ints : Fn P 52 cf_Ints := fun args v hh => by
  unfold cf_Ints at hh; split at hh
  · obtain ⟨l, rfl, hh1⟩ := onL_inv dI_inv hh
    obtain ⟨m, rfl, hh2⟩ := onL_inv dI_inv hh1
    split at hh2
    · rename_i hc; have hk := Option.some.inj hh2; subst hk; exact k_Ints _ _ hc
    · cases hh2
  · cases hh
theorem x_Ints (l : List Int) (m : List Int) (hc : (l.length ≤ 1000) = True) : cf_Ints [.vs (l.map eI), .vs (m.map eI)] = some (.bool (decide (l = m))) := by
  simp only [cf_Ints, onL_map dI_e]
  exact if_pos (by rw [hc]; trivial)
end Sc
