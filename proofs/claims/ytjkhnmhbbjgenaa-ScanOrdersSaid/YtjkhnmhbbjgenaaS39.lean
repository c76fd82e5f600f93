import Derived.Test.YtjkhnmhbbjgenaaEngS9
import Derived.Test.YtjkhnmhbbjgenaaS32
open Go Go.Proofs Eng
set_option maxRecDepth 100000
set_option linter.unusedSimpArgs false
set_option linter.unusedVariables false
def a58 : AC := .seq (.ops false [] [⟨some 2, .p (.mov), [.c (.nilslice)], none⟩]) (.seq (.ops false [] [⟨some 3, .bsl 37 2, [], none⟩, ⟨some 4, .p (.mov), [.t 0], none⟩, ⟨some 5, .app 37 2 16, [.t 3, .t 4], none⟩, ⟨some 2, .p (.mov), [.t 5], none⟩]) (.ret))
theorem c58 : FnC Try.prog 58 6 a58 [.tmp 2] := ⟨Try.call58, _, _, Try.func58, rfl, by kernel_rfl, by kernel_rfl, rfl⟩
def a59 : AC := .seq (.ops false [] [⟨some 3, .box 42 7 1 true, [.t 0], none⟩, ⟨some 6, .p (.mov), [.c (.int .i64 0)], none⟩, ⟨some 7, .p (.mov), [.c (.int .i64 0)], none⟩]) (.seq (.ops false [] [⟨some 15, .load 7 true, [.t 3], none⟩, ⟨some 16, .p (.mov), [.t 1], none⟩, ⟨some 17, .call 104, [.t 15, .t 16], none⟩, ⟨some 14, .p (.mov), [.t 17], none⟩, ⟨some 18, .p (.ext 0), [.t 14], none⟩, ⟨some 19, .p (.ext 1), [.t 14], none⟩, ⟨some 8, .alloc 142 8 [.agg [.int .i64 0, .int .i64 0, .int .i64 0, .int .i64 0, .int .i64 0, .int .i64 0, .nilslice, .nilslice]], [], none⟩, ⟨none, .store 8 true, [.t 8, .t 18], none⟩, ⟨some 9, .p (.mov), [.t 19], none⟩]) (.seq (.ops false [] [⟨some 20, .p (.mov), [.t 9], none⟩, ⟨some 21, .p (.mov), [.t 2], none⟩, ⟨some 22, .p (.lenS), [.t 21], none⟩, ⟨some 23, .p (.mov), [.t 1], none⟩, ⟨some 24, .p (.lenS), [.t 23], none⟩, ⟨some 25, .p (.binI .eql), [.t 22, .t 24], none⟩, ⟨some 26, .call 79, [.t 25, .c (.int .i64 10)], none⟩, ⟨some 27, .fbs 1, [.t 20, .t 26], none⟩, ⟨some 28, .call 86, [.t 27], none⟩, ⟨some 9, .p (.mov), [.t 28], none⟩]) (.seq (.seq (.ops false [] [⟨some 29, .p (.mov), [.t 2], none⟩, ⟨some 30, .p (.lenS), [.t 29], none⟩, ⟨some 31, .p (.mov), [.c (.int .i64 0)], none⟩]) (.block 0 (.loop (.seq (.ops false [] [⟨some 32, .p (.binI .lss), [.t 31, .t 30], none⟩]) (.seq (.cond (.t 32) (.skip) (.exit 0)) (.seq (.block 1 (.seq (.ops false [] [⟨some 33, .p (.mov), [.t 31], none⟩, ⟨some 34, .p (.iaddrS 1), [.t 29, .t 31], none⟩, ⟨some 35, .load 1 false, [.t 34], none⟩, ⟨some 10, .p (.mov), [.t 33], none⟩, ⟨some 11, .p (.mov), [.t 35], none⟩]) (.ops true [] [⟨some 36, .p (.mov), [.t 9], none⟩, ⟨some 37, .p (.mov), [.t 11], none⟩, ⟨some 38, .p (.mov), [.t 1], none⟩, ⟨some 39, .p (.lenS), [.t 38], none⟩, ⟨some 40, .p (.binI .sub), [.t 39, .c (.int .i64 1)], none⟩, ⟨some 41, .call 87, [.t 37, .c (.int .i64 0), .t 40], none⟩, ⟨some 42, .call 79, [.t 41, .c (.int .i64 6)], none⟩, ⟨some 43, .p (.mov), [.t 2], none⟩, ⟨some 44, .p (.mov), [.t 10], none⟩, ⟨some 45, .p (.slc 1 false true false), [.t 43, .t 44], none⟩, ⟨some 46, .p (.mov), [.t 11], none⟩, ⟨some 47, .call 109, [.t 45, .t 46], none⟩, ⟨some 48, .p (.notB), [.t 47], none⟩, ⟨some 49, .call 79, [.t 48, .c (.int .i64 21)], none⟩, ⟨some 50, .fbs 1, [.t 36, .t 42, .t 49], none⟩, ⟨some 51, .call 86, [.t 50], none⟩, ⟨some 9, .p (.mov), [.t 51], none⟩]))) (.ops false [] [⟨some 52, .p (.binI .add), [.t 31, .c (.int .i64 1)], none⟩, ⟨some 31, .p (.mov), [.t 52], none⟩]))))))) (.seq (.seq (.ops false [] [⟨some 53, .p (.mov), [.t 9], none⟩, ⟨some 54, .p (.binI .neq), [.t 53, .c (.int .i64 0)], none⟩]) (.cond (.t 54) (.seq (.ops false [] [⟨some 55, .p (.mov), [.t 9], none⟩, ⟨some 6, .p (.mov), [.c (.int .i64 0)], none⟩, ⟨some 7, .p (.mov), [.t 55], none⟩]) (.ret)) (.skip))) (.seq (.ops false [] [⟨some 57, .load 8 true, [.t 8], none⟩, ⟨some 58, .p (.mov), [.t 2], none⟩, ⟨some 59, .call 107, [.t 57, .t 58], none⟩, ⟨some 56, .p (.mov), [.t 59], none⟩, ⟨some 60, .p (.ext 0), [.t 56], none⟩, ⟨some 61, .p (.ext 1), [.t 56], none⟩, ⟨some 12, .p (.mov), [.t 60], none⟩, ⟨some 13, .p (.mov), [.t 61], none⟩]) (.seq (.ops false [] [⟨some 62, .p (.mov), [.t 12], none⟩, ⟨some 63, .p (.mov), [.t 13], none⟩, ⟨some 64, .call 79, [.t 63, .c (.int .i64 22)], none⟩, ⟨some 6, .p (.mov), [.t 62], none⟩, ⟨some 7, .p (.mov), [.t 64], none⟩]) (.ret)))))))
theorem c59 : FnC Try.prog 59 65 a59 [.tmp 6, .tmp 7] := ⟨Try.call59, _, _, Try.func59, rfl, by kernel_rfl, by kernel_rfl, rfl⟩
def a60 : AC := .seq (.ops false [] [⟨some 2, .p (.mov), [.c (.nilslice)], none⟩]) (.seq (.ops false [] [⟨some 3, .bsl 3 1, [], none⟩, ⟨some 4, .p (.mov), [.t 0], none⟩, ⟨some 5, .app 3 1 8, [.t 3, .t 4], none⟩, ⟨some 2, .p (.mov), [.t 5], none⟩]) (.ret))
theorem c60 : FnC Try.prog 60 6 a60 [.tmp 2] := ⟨Try.call60, _, _, Try.func60, rfl, by kernel_rfl, by kernel_rfl, rfl⟩
def a62 : AC := .seq (.ops false [] [⟨some 2, .p (.mov), [.c (.int .i64 0)], none⟩]) (.seq (.seq (.ops false [] [⟨some 5, .p (.mov), [.t 0], none⟩, ⟨some 6, .p (.lenS), [.t 5], none⟩, ⟨some 7, .p (.binI .eql), [.t 6, .c (.int .i64 0)], none⟩]) (.cond (.t 7) (.seq (.ops false [] [⟨some 2, .p (.mov), [.c (.int .i64 10)], none⟩]) (.ret)) (.skip))) (.seq (.seq (.ops false [] [⟨some 8, .p (.mov), [.t 0], none⟩, ⟨some 9, .p (.lenS), [.t 8], none⟩, ⟨some 10, .p (.binI .gtr), [.t 9, .c (.int .i64 6)], none⟩]) (.cond (.t 10) (.seq (.ops false [] [⟨some 2, .p (.mov), [.c (.int .i64 8)], none⟩]) (.ret)) (.skip))) (.seq (.seq (.ops false [] [⟨some 3, .p (.mov), [.c (.int .i64 0)], none⟩]) (.block 0 (.loop (.seq (.seq (.ops false [] [⟨some 11, .p (.mov), [.t 3], none⟩, ⟨some 12, .p (.mov), [.t 0], none⟩, ⟨some 13, .p (.lenS), [.t 12], none⟩, ⟨some 14, .p (.binI .lss), [.t 11, .t 13], none⟩]) (.cond (.t 14) (.skip) (.exit 0))) (.seq (.block 1 (.seq (.ops false [] [⟨some 17, .p (.mov), [.t 0], none⟩, ⟨some 18, .p (.mov), [.t 3], none⟩, ⟨some 19, .p (.iaddrS 2), [.t 17, .t 18], none⟩, ⟨some 20, .load 2 true, [.t 19], none⟩, ⟨some 21, .call 44, [.t 20], none⟩, ⟨some 4, .p (.mov), [.t 21], none⟩]) (.seq (.ops false [] [⟨some 22, .p (.mov), [.t 4], none⟩, ⟨some 23, .p (.binI .neq), [.t 22, .c (.int .i64 0)], none⟩]) (.cond (.t 23) (.seq (.ops false [] [⟨some 24, .p (.mov), [.t 4], none⟩, ⟨some 2, .p (.mov), [.t 24], none⟩]) (.ret)) (.skip))))) (.ops false [] [⟨some 15, .p (.mov), [.t 3], none⟩, ⟨some 16, .p (.binI .add), [.t 15, .c (.int .i64 1)], none⟩, ⟨some 3, .p (.mov), [.t 16], none⟩])))))) (.seq (.ops false [] [⟨some 2, .p (.mov), [.c (.int .i64 0)], none⟩]) (.ret)))))
theorem c62 : FnC Try.prog 62 25 a62 [.tmp 2] := ⟨Try.call62, _, _, Try.func62, rfl, by kernel_rfl, by kernel_rfl, rfl⟩
namespace Sc
theorem k_CopyDirections (l : List Dr) (hl : l.length ≤ 1000) : FOk P 58 [.vs (l.map eDr)] (.vs (l.map eDr)) := by
  have m1 : (l.length ≤ maxLen) = True := mx (by omega)
  have m2 : (l.length * 16 ≤ 140737488355328) = True := by simp only [eq_iff_iff, iff_true]; omega
  have m3 : (l.map eDr).all (fun v => decide (v.cells.length = 2)) = true := by simp [List.all_map, AV.cells]
  refine c58.fok (by simp only [subs, sub1, free_Dr]) (Cor.run (noC_good _) (noHx_good _) hm ?_)
  simp +contextual -implicitDefEqProofs (maxSteps := 2000000) only [bg_eq, a58, List.length_map, m1, m2, m3, ruB, rh_no, Int.reduceLT, Int.reduceLE, Int.reduceAdd, Int.reduceSub, Int.reduceMul, Int.reduceNeg, Int.reduceToNat, Int.reduceEq, Int.reduceNe, Int.reduceTDiv, Int.reduceTMod, implies_true, putL, appN, appX, appC, Eng.Fi, reduceCtorEq, exists_eq_left', exists_eq_left, if_true, if_false, List.replicate, Nat.reduceAdd, Nat.reduceSub, Nat.reduceMul, Nat.reduceLeDiff, Nat.reduceLT, Nat.reduceEqDiff]
  have t1 : (l.map eDr).take l.length = l.map eDr := by rw [List.take_of_length_le]; simp
  simp [free_Dr, t1]
def cf_CopyDirections : List AV → Option AV
  | [.vs l_v] => onL dDr l_v fun l => if l.length ≤ 1000 then some (.vs (l.map eDr)) else none
  | _ => none
theorem g_CopyDirections : Fn P 58 cf_CopyDirections := fun args v hh => by
  unfold cf_CopyDirections at hh; split at hh
  · obtain ⟨l, rfl, hh1⟩ := onL_inv dDr_inv hh
    split at hh1
    · rename_i hc; have hk := Option.some.inj hh1; subst hk; exact k_CopyDirections _ hc
    · cases hh1
  · cases hh
theorem x_CopyDirections (l : List Dr) (hc : (l.length ≤ 1000) = True) : cf_CopyDirections [.vs (l.map eDr)] = some (.vs (l.map eDr)) := by
  simp only [cf_CopyDirections, onL_map dDr_e]
  exact if_pos (by rw [hc]; trivial)
theorem k_CopyInts (l : List Int) (hl : l.length ≤ 1000) : FOk P 60 [.vs (l.map eI)] (.vs (l.map eI)) := by
  have m1 : (l.length ≤ maxLen) = True := mx (by omega)
  have m2 : (l.length * 8 ≤ 140737488355328) = True := by simp only [eq_iff_iff, iff_true]; omega
  have m3 : (l.map eI).all (fun v => decide (v.cells.length = 1)) = true := by simp [List.all_map, AV.cells]
  refine c60.fok (by simp only [subs, sub1, free_I]) (Cor.run (noC_good _) (noHx_good _) hm ?_)
  simp +contextual -implicitDefEqProofs (maxSteps := 2000000) only [bg_eq, a60, List.length_map, m1, m2, m3, ruB, rh_no, Int.reduceLT, Int.reduceLE, Int.reduceAdd, Int.reduceSub, Int.reduceMul, Int.reduceNeg, Int.reduceToNat, Int.reduceEq, Int.reduceNe, Int.reduceTDiv, Int.reduceTMod, implies_true, putL, appN, appX, appC, Eng.Fi, reduceCtorEq, exists_eq_left', exists_eq_left, if_true, if_false, List.replicate, Nat.reduceAdd, Nat.reduceSub, Nat.reduceMul, Nat.reduceLeDiff, Nat.reduceLT, Nat.reduceEqDiff]
  have t1 : (l.map eI).take l.length = l.map eI := by rw [List.take_of_length_le]; simp
  simp [free_I, t1]
def cf_CopyInts : List AV → Option AV
  | [.vs l_v] => onL dI l_v fun l => if l.length ≤ 1000 then some (.vs (l.map eI)) else none
  | _ => none
theorem g_CopyInts : Fn P 60 cf_CopyInts := fun args v hh => by
  unfold cf_CopyInts at hh; split at hh
  · obtain ⟨l, rfl, hh1⟩ := onL_inv dI_inv hh
    split at hh1
    · rename_i hc; have hk := Option.some.inj hh1; subst hk; exact k_CopyInts _ hc
    · cases hh1
  · cases hh
theorem x_CopyInts (l : List Int) (hc : (l.length ≤ 1000) = True) : cf_CopyInts [.vs (l.map eI)] = some (.vs (l.map eI)) := by
  simp only [cf_CopyInts, onL_map dI_e]
  exact if_pos (by rw [hc]; trivial)
def dsF : List Dr → Int
  | [] => 0
  | d :: r => if drE d = 0 then dsF r else drE d
def dsE (l : List Dr) : Int := if (l.length : Int) = 0 then 10 else if (l.length : Int) ≤ 6 then dsF l else 8
def S62 (l : List Dr) (n : Nat) : AState := ⟨[.vs (l.map eDr), .any, .any, I n, .any, .any, .any, .any, .any, .any, .any, .any, .any, .any, .any, .any, .any, .any, .any, .any, .any, .any, .any, .any, .any], [], 0⟩
theorem k_rDirectionsErr (l : List Dr) (hl : l.length ≤ 1000) : FOk P 62 [.vs (l.map eDr)] (I (dsE l)) := by
  by_cases h0 : (l.length : Int) = 0
  · have h0' := eq_true h0
    rw [dsE, if_pos h0]
    refine c62.fok (by simp only [subs, sub1, free_Dr]) (Cor.run (addC_good g_rDirectionErr (noC_good _)) (noHx_good _) hm ?_)
    simp +contextual -implicitDefEqProofs (maxSteps := 2000000) only [bg_eq, a62, List.length_map, h0', ruB, rh_no, Int.reduceLT, Int.reduceLE, Int.reduceAdd, Int.reduceSub, Int.reduceMul, Int.reduceNeg, Int.reduceToNat, Int.reduceEq, Int.reduceNe, Int.reduceTDiv, Int.reduceTMod, implies_true, putL, appN, appX, appC, Eng.Fi, reduceCtorEq, exists_eq_left', exists_eq_left, if_true, if_false, List.replicate, Nat.reduceAdd, Nat.reduceSub, Nat.reduceMul, Nat.reduceLeDiff, Nat.reduceLT, Nat.reduceEqDiff]
  · by_cases h6 : (l.length : Int) ≤ 6
    · have h6' : (6 < (l.length : Int)) = False := by simp only [eq_iff_iff, iff_false]; omega
      rw [dsE, if_neg h0, if_pos h6]
      refine c62.fok (by simp only [subs, sub1, free_Dr]) (Cor.run (addC_good g_rDirectionErr (noC_good _)) (noHx_good _) hm ?_)
      simp +contextual -implicitDefEqProofs (maxSteps := 2000000) only [bg_eq, a62, List.length_map, h0, h6', ruB, rh_no, Int.reduceLT, Int.reduceLE, Int.reduceAdd, Int.reduceSub, Int.reduceMul, Int.reduceNeg, Int.reduceToNat, Int.reduceEq, Int.reduceNe, Int.reduceTDiv, Int.reduceTMod, implies_true, putL, appN, appX, appC, Eng.Fi, reduceCtorEq, exists_eq_left', exists_eq_left, if_true, if_false, List.replicate, Nat.reduceAdd, Nat.reduceSub, Nat.reduceMul, Nat.reduceLeDiff, Nat.reduceLT, Nat.reduceEqDiff]
      refine Cor.lp (addC_good g_rDirectionErr (noC_good _)) (noHx_good _) hm (S62 l) (fun n => n ≤ l.length ∧ dsF l = dsF (l.drop n)) (fun n => l.length - n) (a := 0) ⟨Nat.zero_le _, rfl⟩ (Wkn.keep [0, 3] rfl) ?_
      intro f n ⟨hn, hf⟩ go
      rcases Nat.lt_or_ge n l.length with h | h
      · have e1 : decide ((n : Int) < (l.length : Int)) = true := lt_t h
        have e2 : (l.map eDr)[n]? = some (eDr l[n]) := get_e eDr l h
        have e3 : IntKind.wrap .i64 ((n : Int) + 1) = ((n + 1 : Nat) : Int) := suc_w (by omega)
        rw [List.drop_eq_getElem_cons h, dsF] at hf
        generalize l[n] = r at *
        have y := x_rDirectionErr r.az r.el
        have ey : drE ⟨r.az, r.el⟩ = drE r := rfl
        rw [ey] at y
        by_cases hz : drE r = 0
        · rw [if_pos hz] at hf
          simp +contextual -implicitDefEqProofs (maxSteps := 2000000) only [S62, e1, e2, e3, y, hz, List.length_map, not_true_eq_false, ruB, rh_no, Int.reduceLT, Int.reduceLE, Int.reduceAdd, Int.reduceSub, Int.reduceMul, Int.reduceNeg, Int.reduceToNat, Int.reduceEq, Int.reduceNe, Int.reduceTDiv, Int.reduceTMod, implies_true, putL, appN, appX, appC, Eng.Fi, reduceCtorEq, exists_eq_left', exists_eq_left, if_true, if_false, List.replicate, Nat.reduceAdd, Nat.reduceSub, Nat.reduceMul, Nat.reduceLeDiff, Nat.reduceLT, Nat.reduceEqDiff]
          exact go _ (n + 1) ⟨h, hf⟩ (by omega) (Wkn.keep [0, 3] rfl)
        · rw [if_neg hz] at hf
          rw [hf]
          simp +contextual -implicitDefEqProofs (maxSteps := 2000000) only [S62, e1, e2, e3, y, hz, List.length_map, not_false_eq_true, ruB, rh_no, Int.reduceLT, Int.reduceLE, Int.reduceAdd, Int.reduceSub, Int.reduceMul, Int.reduceNeg, Int.reduceToNat, Int.reduceEq, Int.reduceNe, Int.reduceTDiv, Int.reduceTMod, implies_true, putL, appN, appX, appC, Eng.Fi, reduceCtorEq, exists_eq_left', exists_eq_left, if_true, if_false, List.replicate, Nat.reduceAdd, Nat.reduceSub, Nat.reduceMul, Nat.reduceLeDiff, Nat.reduceLT, Nat.reduceEqDiff]
      · have e1 : decide ((n : Int) < (l.length : Int)) = false := lt_f h
        rw [List.drop_eq_nil_of_le h, dsF] at hf
        rw [hf]
        simp +contextual -implicitDefEqProofs (maxSteps := 2000000) only [S62, e1, List.length_map, ruB, rh_no, Int.reduceLT, Int.reduceLE, Int.reduceAdd, Int.reduceSub, Int.reduceMul, Int.reduceNeg, Int.reduceToNat, Int.reduceEq, Int.reduceNe, Int.reduceTDiv, Int.reduceTMod, implies_true, putL, appN, appX, appC, Eng.Fi, reduceCtorEq, exists_eq_left', exists_eq_left, if_true, if_false, List.replicate, Nat.reduceAdd, Nat.reduceSub, Nat.reduceMul, Nat.reduceLeDiff, Nat.reduceLT, Nat.reduceEqDiff]
    · have h6' : (6 < (l.length : Int)) = True := by simp only [eq_iff_iff, iff_true]; omega
      rw [dsE, if_neg h0, if_neg h6]
      refine c62.fok (by simp only [subs, sub1, free_Dr]) (Cor.run (addC_good g_rDirectionErr (noC_good _)) (noHx_good _) hm ?_)
      simp +contextual -implicitDefEqProofs (maxSteps := 2000000) only [bg_eq, a62, List.length_map, h0, h6', ruB, rh_no, Int.reduceLT, Int.reduceLE, Int.reduceAdd, Int.reduceSub, Int.reduceMul, Int.reduceNeg, Int.reduceToNat, Int.reduceEq, Int.reduceNe, Int.reduceTDiv, Int.reduceTMod, implies_true, putL, appN, appX, appC, Eng.Fi, reduceCtorEq, exists_eq_left', exists_eq_left, if_true, if_false, List.replicate, Nat.reduceAdd, Nat.reduceSub, Nat.reduceMul, Nat.reduceLeDiff, Nat.reduceLT, Nat.reduceEqDiff]
def cf_rDirectionsErr : List AV → Option AV
  | [.vs l_v] => onL dDr l_v fun l => if l.length ≤ 1000 then some (I (dsE l)) else none
  | _ => none
theorem g_rDirectionsErr : Fn P 62 cf_rDirectionsErr := fun args v hh => by
  unfold cf_rDirectionsErr at hh; split at hh
  · obtain ⟨l, rfl, hh1⟩ := onL_inv dDr_inv hh
    split at hh1
    · rename_i hc; have hk := Option.some.inj hh1; subst hk; exact k_rDirectionsErr _ hc
    · cases hh1
  · cases hh
theorem x_rDirectionsErr (l : List Dr) (hc : (l.length ≤ 1000) = True) : cf_rDirectionsErr [.vs (l.map eDr)] = some (I (dsE l)) := by
  simp only [cf_rDirectionsErr, onL_map dDr_e]
  exact if_pos (by rw [hc]; trivial)
theorem fE2' (a b : Int) : firstE [a, b] = if a = 0 then b else a := by
  have h : firstE [a, b] = if a = 0 then (if b = 0 then 0 else b) else a := rfl
  rw [h]
  by_cases h1 : a = 0
  · rw [if_pos h1, if_pos h1]
    by_cases h2 : b = 0
    · rw [if_pos h2, h2]
    · rw [if_neg h2]
  · rw [if_neg h1, if_neg h1]
theorem fE3 (a b c : Int) : firstE [a, b, c] = if a = 0 then firstE [b, c] else a := by
  have h : firstE [a, b, c] = if a = 0 then firstE [b, c] else a := rfl
  exact h
theorem opE2_val : ∀ (l : List Dr) (e : Int), opE2 e l = if e = 0 then dsF l else e
  | [], e => by
    rw [opE2, dsF]; split
    · rename_i h; exact h
    · rfl
  | d :: l, e => by
    rw [opE2, opE2_val l, fE2', dsF]
    by_cases h : e = 0
    · rw [if_pos h, if_pos h]
    · rw [if_neg h, if_neg h, if_neg h]
theorem opE_val (h : Hd) (l : List Dr) : opE h l = if hdE h = 0 then dsE l else hdE h := by
  unfold opE opE1
  rw [opE2_val, fE3, fE2']
  by_cases h1 : hdE h = 0
  · rw [if_pos h1, if_pos h1, dsE]
    by_cases h2 : (l.length : Int) = 0
    · rw [if_pos h2, unl_f 10 (by omega), if_neg (by decide : ¬ (10 : Int) = 0), if_neg (by decide : ¬ (10 : Int) = 0)]
    · rw [if_neg h2, unl_t 10 (by omega), if_pos rfl]
      by_cases h3 : (l.length : Int) ≤ 6
      · rw [unl_t 8 h3, if_pos rfl, if_pos h3]
      · rw [unl_f 8 h3, if_neg (by decide : ¬ (8 : Int) = 0), if_neg h3]
  · rw [if_neg h1, if_neg h1, if_neg h1]
/-- the check of an order -/
def coF (N : Int) : Int → List Int → List Int → Int
  | e, _, [] => e
  | e, s, i :: r => coF N (firstE [e, unl (0 ≤ i ∧ i ≤ N - 1) 6, unl (¬ i ∈ s) 21]) (s ++ [i]) r
def coE (h : Hd) (l : List Dr) (o : List Int) : Int := coF l.length (firstE [opE h l, unl ((o.length : Int) = (l.length : Int)) 10]) [] o
def coV (h : Hd) (l : List Dr) (o : List Int) : AV := if coE h l o = 0 then (match tcG ⟨h, l⟩ 0 h.home o with
  | some t => .tup [I t, I 0]
  | none => .tup [I 0, I 22]) else .tup [I 0, I (coE h l o)]
theorem coF_zero {N : Int} : ∀ {r : List Int} {e : Int} {s : List Int}, coF N e s r = 0 → e = 0 ∧ (∀ i ∈ r, 0 ≤ i ∧ i ≤ N - 1) ∧ (∀ i ∈ r, ¬ i ∈ s) ∧ r.Nodup
  | [], e, s, h => ⟨h, by simp, by simp, List.nodup_nil⟩
  | i :: r, e, s, h => by
    obtain ⟨h1, h2, h3, h4⟩ := coF_zero (r := r) h
    have z := firstE_zero h1
    have z2 := unl_zero (z (unl (0 ≤ i ∧ i ≤ N - 1) 6) (by simp)) (by decide)
    have z3 := unl_zero (z (unl (¬ i ∈ s) 21) (by simp)) (by decide)
    refine ⟨z e (by simp), fun j hj => ?_, fun j hj => ?_, ?_⟩
    · rcases List.mem_cons.1 hj with rfl | hj
      · exact z2
      · exact h2 j hj
    · rcases List.mem_cons.1 hj with rfl | hj
      · exact z3
      · exact fun hs => h3 j hj (by simp [hs])
    · refine List.nodup_cons.2 ⟨fun hi => h3 i hi (by simp), h4⟩
def S59 (h : Hd) (l : List Dr) (o : List Int) (p : Nat × Int) : AState := ⟨[.any, .vs (l.map eDr), .vs (o.map eI), .any, .any, .any, .any, .any, .ptr 0 8 0 0, I p.2, .any, .any, .any, .any, .any, .any, .any, .any, .any, .any, .any, .any, .any, .any, .any, .any, .any, .any, .any, .vs (o.map eI), I o.length, I p.1, .any, .any, .any, .any, .any, .any, .any, .any, .any, .any, .any, .any, .any, .any, .any, .any, .any, .any, .any, .any, .any, .any, .any, .any, .any, .any, .any, .any, .any, .any, .any, .any, .any], [⟨0, 0, .rows 142 8 [eOd ⟨h, l⟩]⟩], 1⟩
theorem k_CheckOrder (h : Hd) (l : List Dr) (o : List Int) (hc : (h.res.length ≤ 1099511627776 ∧ l.length ≤ 1000) ∧ o.length ≤ 1000) : FOk P 59 [eHd h, .vs (l.map eDr), .vs (o.map eI)] (coV h l o) := by
  obtain ⟨⟨hh, hl⟩, ho⟩ := hc
  have y := x_openOrder h l (by simp only [eq_iff_iff, iff_true]; exact ⟨hh, by omega⟩)
  refine c59.fok (by simp only [free_Hs, subs, sub1, free_Se, free_Dr, free_I]) (Cor.run (addC_good g_ticks (addC_good g_ContainsI (addC_good g_within (addC_good g_first (addC_good g_unless (addC_good g_openOrder (noC_good _))))))) (noHx_good _) hm ?_)
  simp +contextual -implicitDefEqProofs (maxSteps := 2000000) only [bg_eq, a59, y, x_unless, x_first, y_first, free_Se, free_Dr, List.length_map, ruB, rh_no, Int.reduceLT, Int.reduceLE, Int.reduceAdd, Int.reduceSub, Int.reduceMul, Int.reduceNeg, Int.reduceToNat, Int.reduceEq, Int.reduceNe, Int.reduceTDiv, Int.reduceTMod, implies_true, putL, appN, appX, appC, Eng.Fi, reduceCtorEq, exists_eq_left', exists_eq_left, if_true, if_false, List.replicate, Nat.reduceAdd, Nat.reduceSub, Nat.reduceMul, Nat.reduceLeDiff, Nat.reduceLT, Nat.reduceEqDiff]
  refine Cor.lp (addC_good g_ticks (addC_good g_ContainsI (addC_good g_within (addC_good g_first (addC_good g_unless (addC_good g_openOrder (noC_good _))))))) (noHx_good _) hm (S59 h l o) (fun p => p.1 ≤ o.length ∧ coE h l o = coF l.length p.2 (o.take p.1) (o.drop p.1)) (fun p => o.length - p.1) (a := (0, firstE [opE h l, unl ((o.length : Int) = (l.length : Int)) 10])) ⟨Nat.zero_le _, rfl⟩ (Wkn.to ⟨0, [(1, 0)], [], 1, [1, 2, 8, 9, 29, 30, 31]⟩ rfl rfl (by simp [Wk.st, keepT, memN, Wk.fate, Wk.fate0, assoc, getE, Wk.hp, ABlk.sub, sub1, subs, S59, free_Se, free_Dr, free_I])) ?_
  rintro f ⟨k, e⟩ ⟨hk, hf⟩ go
  simp only at hk hf
  rcases Nat.lt_or_ge k o.length with hlt | hlt
  · have e1 : decide ((k : Int) < (o.length : Int)) = true := lt_t hlt
    have e2 : (o.map eI)[k]? = some (eI o[k]) := get_e eI o hlt
    have e3 : IntKind.wrap .i64 ((k : Int) + 1) = ((k + 1 : Nat) : Int) := suc_w (by omega)
    have w1 : IntKind.wrap .i64 ((l.length : Int) - 1) = (l.length : Int) - 1 := wrap64 (by omega) (by omega)
    have htk : o.take (k + 1) = o.take k ++ [o[k]] := List.take_succ_eq_append_getElem hlt
    have yc := x_ContainsI (o.take k) o[k] (by simp only [eq_iff_iff, iff_true, List.length_take]; omega)
    rw [List.map_take] at yc
    rw [List.drop_eq_getElem_cons hlt, coF] at hf
    generalize o[k] = i at *
    have b1 : (k ≤ o.length) = True := by simp only [eq_iff_iff, iff_true]; omega
    simp +contextual -implicitDefEqProofs (maxSteps := 2000000) only [S59, e1, e2, e3, w1, b1, yc, x_within, x_unless, x_first, y_first, List.length_map, ruB, rh_no, Int.reduceLT, Int.reduceLE, Int.reduceAdd, Int.reduceSub, Int.reduceMul, Int.reduceNeg, Int.reduceToNat, Int.reduceEq, Int.reduceNe, Int.reduceTDiv, Int.reduceTMod, implies_true, putL, appN, appX, appC, Eng.Fi, reduceCtorEq, exists_eq_left', exists_eq_left, if_true, if_false, List.replicate, Nat.reduceAdd, Nat.reduceSub, Nat.reduceMul, Nat.reduceLeDiff, Nat.reduceLT, Nat.reduceEqDiff]
    exact go _ (k + 1, firstE [e, unl (0 ≤ i ∧ i ≤ (l.length : Int) - 1) 6, unl (¬ i ∈ o.take k) 21]) ⟨hlt, by simp only; rw [htk]; exact hf⟩ (by simp only; omega) (Wkn.to ⟨0, [(0, 0)], [], 1, [1, 2, 8, 9, 29, 30, 31]⟩ rfl rfl (by simp [Wk.st, keepT, memN, Wk.fate, Wk.fate0, assoc, getE, Wk.hp, ABlk.sub, sub1, subs, S59, free_Se, free_Dr, free_I]))
  · have e1 : decide ((k : Int) < (o.length : Int)) = false := lt_f hlt
    rw [List.drop_eq_nil_of_le hlt, coF] at hf
    subst hf
    by_cases hz : coE h l o = 0
    · obtain ⟨z1, z2, z3, z4⟩ := coF_zero hz
      have z5 := firstE_zero z1
      have hop := opE_z (z5 (opE h l) (by simp))
      have hlen := unl_zero (z5 (unl ((o.length : Int) = (l.length : Int)) 10) (by simp)) (by decide)
      have h6 := hop.1.1.2
      simp only at h6
      have yt := x_ticks ⟨h, l⟩ o (by simp only [eq_iff_iff, iff_true]; exact ⟨hop.1, by omega, fun i hi => by have := z2 i hi; simp only; omega⟩)
      rw [coV, if_pos hz]
      cases ht : tcG ⟨h, l⟩ 0 h.home o with
      | some t =>
        simp only at yt
        rw [ht] at yt
        simp only [tcV] at yt
        simp +contextual -implicitDefEqProofs (maxSteps := 2000000) only [S59, e1, hz, yt, x_unlessB, List.length_map, not_true_eq_false, ruB, rh_no, Int.reduceLT, Int.reduceLE, Int.reduceAdd, Int.reduceSub, Int.reduceMul, Int.reduceNeg, Int.reduceToNat, Int.reduceEq, Int.reduceNe, Int.reduceTDiv, Int.reduceTMod, implies_true, putL, appN, appX, appC, Eng.Fi, reduceCtorEq, exists_eq_left', exists_eq_left, if_true, if_false, List.replicate, Nat.reduceAdd, Nat.reduceSub, Nat.reduceMul, Nat.reduceLeDiff, Nat.reduceLT, Nat.reduceEqDiff]
        rfl
      | none =>
        simp only at yt
        rw [ht] at yt
        simp only [tcV] at yt
        simp +contextual -implicitDefEqProofs (maxSteps := 2000000) only [S59, e1, hz, yt, x_unlessB, List.length_map, not_true_eq_false, ruB, rh_no, Int.reduceLT, Int.reduceLE, Int.reduceAdd, Int.reduceSub, Int.reduceMul, Int.reduceNeg, Int.reduceToNat, Int.reduceEq, Int.reduceNe, Int.reduceTDiv, Int.reduceTMod, implies_true, putL, appN, appX, appC, Eng.Fi, reduceCtorEq, exists_eq_left', exists_eq_left, if_true, if_false, List.replicate, Nat.reduceAdd, Nat.reduceSub, Nat.reduceMul, Nat.reduceLeDiff, Nat.reduceLT, Nat.reduceEqDiff]
        rfl
    · rw [coV, if_neg hz]
      simp +contextual -implicitDefEqProofs (maxSteps := 2000000) only [S59, e1, hz, List.length_map, not_false_eq_true, ruB, rh_no, Int.reduceLT, Int.reduceLE, Int.reduceAdd, Int.reduceSub, Int.reduceMul, Int.reduceNeg, Int.reduceToNat, Int.reduceEq, Int.reduceNe, Int.reduceTDiv, Int.reduceTMod, implies_true, putL, appN, appX, appC, Eng.Fi, reduceCtorEq, exists_eq_left', exists_eq_left, if_true, if_false, List.replicate, Nat.reduceAdd, Nat.reduceSub, Nat.reduceMul, Nat.reduceLeDiff, Nat.reduceLT, Nat.reduceEqDiff]
def cf_CheckOrder : List AV → Option AV
  | [h_v, .vs l_v, .vs o_v] => onH h_v fun h => onL dDr l_v fun l => onL dI o_v fun o => if (h.res.length ≤ 1099511627776 ∧ l.length ≤ 1000) ∧ o.length ≤ 1000 then some (coV h l o) else none
  | _ => none
theorem g_CheckOrder : Fn P 59 cf_CheckOrder := fun args v hh => by
  unfold cf_CheckOrder at hh; split at hh
  · obtain ⟨h, rfl, hh1⟩ := onH_inv hh
    obtain ⟨l, rfl, hh2⟩ := onL_inv dDr_inv hh1
    obtain ⟨o, rfl, hh3⟩ := onL_inv dI_inv hh2
    split at hh3
    · rename_i hc; have hk := Option.some.inj hh3; subst hk; exact k_CheckOrder _ _ _ hc
    · cases hh3
  · cases hh
theorem x_CheckOrder (h : Hd) (l : List Dr) (o : List Int) (hc : ((h.res.length ≤ 1099511627776 ∧ l.length ≤ 1000) ∧ o.length ≤ 1000) = True) : cf_CheckOrder [eHd h, .vs (l.map eDr), .vs (o.map eI)] = some (coV h l o) := by
  simp only [cf_CheckOrder, onH_e, onL_map dDr_e, onL_map dI_e]
  exact if_pos (by rw [hc]; trivial)
end Sc
