import Derived.Test.YtiianhoefakcdaaEngS9
import Derived.Test.YtiianhoefakcdaaW7t
open Go Go.Proofs Eng
set_option maxRecDepth 100000
set_option linter.unusedSimpArgs false
set_option linter.unusedVariables false
def a6 : AC := .seq (.ops false [] [⟨some 0, .p (.mov), [.c (.bool false)], none⟩]) (.seq (.ops false [] [⟨some 6, .call 39, [], none⟩, ⟨some 7, .call 40, [], none⟩, ⟨some 8, .p (.build [.int .i64 0, .int .i64 0] [(0, 1), (1, 1)]), [.c (.int .i64 3), .c (.int .i64 14)], none⟩, ⟨some 9, .call 38, [.t 6, .t 7, .t 8], none⟩, ⟨some 5, .p (.mov), [.t 9], none⟩, ⟨some 10, .p (.ext 0), [.t 5], none⟩, ⟨some 11, .p (.ext 1), [.t 5], none⟩, ⟨some 1, .p (.mov), [.t 10], none⟩, ⟨some 2, .p (.mov), [.t 11], none⟩]) (.seq (.ops false [] [⟨some 13, .call 42, [], none⟩, ⟨some 14, .call 43, [], none⟩, ⟨some 15, .call 44, [], none⟩, ⟨some 16, .call 41, [.t 13, .t 14, .t 15], none⟩, ⟨some 12, .p (.mov), [.t 16], none⟩, ⟨some 17, .p (.ext 0), [.t 12], none⟩, ⟨some 18, .p (.ext 1), [.t 12], none⟩, ⟨some 3, .p (.mov), [.t 17], none⟩, ⟨some 4, .p (.mov), [.t 18], none⟩]) (.seq (.ops false [] [⟨some 19, .p (.mov), [.t 2], none⟩, ⟨some 20, .p (.binI .eql), [.t 19, .c (.int .i64 0)], none⟩, ⟨some 21, .p (.mov), [.t 20], none⟩, ⟨some 22, .p (.mov), [.t 1], some (21, true)⟩, ⟨some 23, .p (.binI .eql), [.t 22, .c (.int .i64 20)], some (21, true)⟩, ⟨some 24, .p (.pick), [.t 21, .t 23, .c (.bool false)], none⟩, ⟨some 25, .p (.mov), [.t 24], none⟩, ⟨some 26, .p (.mov), [.t 4], some (25, true)⟩, ⟨some 27, .p (.binI .eql), [.t 26, .c (.int .i64 0)], some (25, true)⟩, ⟨some 28, .p (.pick), [.t 25, .t 27, .c (.bool false)], none⟩, ⟨some 29, .p (.mov), [.t 28], none⟩, ⟨some 30, .p (.mov), [.t 3], some (29, true)⟩, ⟨some 31, .p (.binI .eql), [.t 30, .c (.int .i64 8)], some (29, true)⟩, ⟨some 32, .p (.pick), [.t 29, .t 31, .c (.bool false)], none⟩, ⟨some 0, .p (.mov), [.t 32], none⟩]) (.ret))))
theorem c6 : FnC Try.prog 6 33 a6 [.tmp 0] := ⟨Try.call6, _, _, Try.func6, rfl, by kernel_rfl, by kernel_rfl, rfl⟩
def a11 : AC := .seq (.ops false [] [⟨some 2, .p (.mov), [.c (.nilslice)], none⟩]) (.seq (.ops false [] [⟨some 3, .bsl 46 3, [], none⟩, ⟨some 4, .p (.mov), [.t 0], none⟩, ⟨some 5, .app 46 3 24, [.t 3, .t 4], none⟩, ⟨some 2, .p (.mov), [.t 5], none⟩]) (.ret))
theorem c11 : FnC Try.prog 11 6 a11 [.tmp 2] := ⟨Try.call11, _, _, Try.func11, rfl, by kernel_rfl, by kernel_rfl, rfl⟩
def a39 : AC := .seq (.ops false [] [⟨some 0, .alloc 97 4 [.agg [.int .i64 0, .int .i64 0, .int .i64 0, .int .i64 0]], [], none⟩]) (.seq (.ops false [] [⟨some 1, .p (.build [.int .i64 0, .int .i64 0] [(1, 1)]), [.c (.int .i64 10)], none⟩, ⟨some 2, .p (.build [.int .i64 0, .int .i64 0, .int .i64 0, .int .i64 0] [(0, 2), (2, 1), (3, 1)]), [.t 1, .c (.int .i64 3), .c (.int .i64 10)], none⟩, ⟨none, .store 4 true, [.t 0, .t 2], none⟩]) (.ret))
theorem c39 : FnC Try.prog 39 3 a39 [.cell 0 4 true] := ⟨Try.call39, _, _, Try.func39, rfl, by kernel_rfl, by kernel_rfl, rfl⟩
def a40 : AC := .seq (.ops false [] [⟨some 0, .alloc 100 3 [.agg [.int .i64 0, .int .i64 0, .int .i64 0]], [], none⟩]) (.seq (.ops false [] [⟨some 1, .p (.build [.int .i64 0, .int .i64 0, .int .i64 0] [(2, 1)]), [.c (.int .i64 1)], none⟩, ⟨none, .store 3 true, [.t 0, .t 1], none⟩]) (.ret))
theorem c40 : FnC Try.prog 40 2 a40 [.cell 0 3 true] := ⟨Try.call40, _, _, Try.func40, rfl, by kernel_rfl, by kernel_rfl, rfl⟩
def a42 : AC := .seq (.ops false [] [⟨some 0, .alloc 25 6 [.agg [.int .i64 0, .int .i64 0, .int .i64 0, .int .i64 0, .int .i64 0, .int .i64 0]], [], none⟩]) (.seq (.ops false [] [⟨some 1, .p (.build [.int .i64 0, .int .i64 0] [(1, 1)]), [.c (.int .i64 2)], none⟩, ⟨some 2, .p (.build [.int .i64 0, .int .i64 0] [(0, 1), (1, 1)]), [.c (.int .i64 10), .c (.int .i64 12)], none⟩, ⟨some 3, .p (.build [.int .i64 0, .int .i64 0] [(0, 1), (1, 1)]), [.c (.int .i64 8), .c (.int .i64 10)], none⟩, ⟨some 4, .p (.build [.int .i64 0, .int .i64 0, .int .i64 0, .int .i64 0, .int .i64 0, .int .i64 0] [(0, 2), (2, 2), (4, 2)]), [.t 1, .t 2, .t 3], none⟩, ⟨none, .store 6 true, [.t 0, .t 4], none⟩]) (.ret))
theorem c42 : FnC Try.prog 42 5 a42 [.cell 0 6 true] := ⟨Try.call42, _, _, Try.func42, rfl, by kernel_rfl, by kernel_rfl, rfl⟩
def a43 : AC := .seq (.ops false [] [⟨some 0, .alloc 30 6 [.agg [.int .i64 0, .int .i64 0, .int .i64 0, .int .i64 0, .int .i64 0, .int .i64 0]], [], none⟩]) (.seq (.ops false [] [⟨some 1, .p (.build [.int .i64 0, .int .i64 0] [(0, 1), (1, 1)]), [.c (.int .i64 (-1)), .c (.int .i64 1)], none⟩, ⟨some 2, .p (.build [.int .i64 0, .int .i64 0] [(0, 1), (1, 1)]), [.c (.int .i64 1), .c (.int .i64 2)], none⟩, ⟨some 3, .p (.build [.int .i64 0, .int .i64 0] [(1, 1)]), [.c (.int .i64 1)], none⟩, ⟨some 4, .p (.build [.int .i64 0, .int .i64 0, .int .i64 0, .int .i64 0, .int .i64 0, .int .i64 0] [(0, 2), (2, 2), (4, 2)]), [.t 1, .t 2, .t 3], none⟩, ⟨none, .store 6 true, [.t 0, .t 4], none⟩]) (.ret))
theorem c43 : FnC Try.prog 43 5 a43 [.cell 0 6 true] := ⟨Try.call43, _, _, Try.func43, rfl, by kernel_rfl, by kernel_rfl, rfl⟩
def a44 : AC := .seq (.ops false [] [⟨some 0, .alloc 32 7 [.agg [.int .i64 0, .int .i64 0, .int .i64 0, .int .i64 0, .int .i64 0, .int .i64 0, .int .i64 0]], [], none⟩]) (.seq (.ops false [] [⟨some 1, .p (.build [.int .i64 0, .int .i64 0] [(0, 1), (1, 1)]), [.c (.int .i64 (-100)), .c (.int .i64 100)], none⟩, ⟨some 2, .p (.build [.int .i64 0, .int .i64 0] [(0, 1), (1, 1)]), [.c (.int .i64 5), .c (.int .i64 50)], none⟩, ⟨some 3, .p (.build [.int .i64 0, .int .i64 0, .int .i64 0, .int .i64 0, .int .i64 0, .int .i64 0, .int .i64 0] [(0, 2), (2, 2), (4, 1), (6, 1)]), [.t 1, .t 2, .c (.int .i64 1), .c (.int .i64 20)], none⟩, ⟨none, .store 7 true, [.t 0, .t 3], none⟩]) (.ret))
theorem c44 : FnC Try.prog 44 4 a44 [.cell 0 7 true] := ⟨Try.call44, _, _, Try.func44, rfl, by kernel_rfl, by kernel_rfl, rfl⟩
namespace Wa
theorem k_CopyVortices (l : List Vo) (hl : l.length ≤ 1000) : FOk P 11 [.vs (l.map eVo)] (.vs (l.map eVo)) := by
  have m1 : (l.length ≤ maxLen) = True := mx (by omega)
  have m2 : (l.length * 24 ≤ 140737488355328) = True := by simp only [eq_iff_iff, iff_true]; omega
  have m3 : (l.map eVo).all (fun v => decide (v.cells.length = 3)) = true := by simp [List.all_map, AV.cells]
  refine c11.fok (by simp only [subs, sub1, free_Vo]) (Cor.run (noC_good _) (noHx_good _) hm ?_)
  simp +contextual -implicitDefEqProofs (maxSteps := 2000000) only [bg_eq, a11, List.length_map, m1, m2, m3, ruB, rh_no, Int.reduceLT, Int.reduceLE, Int.reduceAdd, Int.reduceSub, Int.reduceMul, Int.reduceNeg, Int.reduceToNat, Int.reduceEq, Int.reduceNe, Int.reduceTDiv, Int.reduceTMod, implies_true, putL, appN, appX, appC, Eng.Fi, reduceCtorEq, exists_eq_left', exists_eq_left, if_true, if_false, List.replicate, Nat.reduceAdd, Nat.reduceSub, Nat.reduceMul, Nat.reduceLeDiff, Nat.reduceLT, Nat.reduceEqDiff]
  have t1 : (l.map eVo).take l.length = l.map eVo := by rw [List.take_of_length_le]; simp
  simp [free_Vo, t1]
def cf_CopyVortices : List AV → Option AV
  | [.vs l_v] => onL dVo l_v fun l => if l.length ≤ 1000 then some (.vs (l.map eVo)) else none
  | _ => none
theorem g_CopyVortices : Fn P 11 cf_CopyVortices := fun args v hh => by
  unfold cf_CopyVortices at hh; split at hh
  · obtain ⟨l, rfl, hh1⟩ := onL_inv dVo_inv hh
    split at hh1
    · rename_i hc; have hk := Option.some.inj hh1; subst hk; exact k_CopyVortices _ hc
    · cases hh1
  · cases hh
theorem x_CopyVortices (l : List Vo) (hc : (l.length ≤ 1000) = True) : cf_CopyVortices [.vs (l.map eVo)] = some (.vs (l.map eVo)) := by
  simp only [cf_CopyVortices, onL_map dVo_e]
  exact if_pos (by rw [hc]; trivial)
theorem k_wPair : FOk P 39 [] (ePa ⟨0, 10, 3, 10⟩) := by
  refine c39.fok rfl (Cor.run (noC_good _) (noHx_good _) hm ?_)
  simp +contextual -implicitDefEqProofs (maxSteps := 2000000) only [bg_eq, a39, ruB, rh_no, Int.reduceLT, Int.reduceLE, Int.reduceAdd, Int.reduceSub, Int.reduceMul, Int.reduceNeg, Int.reduceToNat, Int.reduceEq, Int.reduceNe, Int.reduceTDiv, Int.reduceTMod, implies_true, putL, appN, appX, appC, Eng.Fi, reduceCtorEq, exists_eq_left', exists_eq_left, if_true, if_false, List.replicate, Nat.reduceAdd, Nat.reduceSub, Nat.reduceMul, Nat.reduceLeDiff, Nat.reduceLT, Nat.reduceEqDiff]
def cf_wPair : List AV → Option AV
  | [] => some (.agg [I 0, I 10, I 3, I 10])
  | _ => none
theorem g_wPair : Fn P 39 cf_wPair := fun args v h => by
  unfold cf_wPair at h; split at h
  · have h := Option.some.inj h; subst h; exact k_wPair 
  · cases h
theorem x_wPair : cf_wPair [] = some (.agg [I 0, I 10, I 3, I 10]) := rfl
theorem k_wSetup : FOk P 40 [] (eSu ⟨0, 0, 1⟩) := by
  refine c40.fok rfl (Cor.run (noC_good _) (noHx_good _) hm ?_)
  simp +contextual -implicitDefEqProofs (maxSteps := 2000000) only [bg_eq, a40, ruB, rh_no, Int.reduceLT, Int.reduceLE, Int.reduceAdd, Int.reduceSub, Int.reduceMul, Int.reduceNeg, Int.reduceToNat, Int.reduceEq, Int.reduceNe, Int.reduceTDiv, Int.reduceTMod, implies_true, putL, appN, appX, appC, Eng.Fi, reduceCtorEq, exists_eq_left', exists_eq_left, if_true, if_false, List.replicate, Nat.reduceAdd, Nat.reduceSub, Nat.reduceMul, Nat.reduceLeDiff, Nat.reduceLT, Nat.reduceEqDiff]
def cf_wSetup : List AV → Option AV
  | [] => some (.agg [I 0, I 0, I 1])
  | _ => none
theorem g_wSetup : Fn P 40 cf_wSetup := fun args v h => by
  unfold cf_wSetup at h; split at h
  · have h := Option.some.inj h; subst h; exact k_wSetup 
  · cases h
theorem x_wSetup : cf_wSetup [] = some (.agg [I 0, I 0, I 1]) := rfl
theorem k_wBox : FOk P 42 [] (eBx ⟨0, 2, 10, 12, 8, 10⟩) := by
  refine c42.fok rfl (Cor.run (noC_good _) (noHx_good _) hm ?_)
  simp +contextual -implicitDefEqProofs (maxSteps := 2000000) only [bg_eq, a42, ruB, rh_no, Int.reduceLT, Int.reduceLE, Int.reduceAdd, Int.reduceSub, Int.reduceMul, Int.reduceNeg, Int.reduceToNat, Int.reduceEq, Int.reduceNe, Int.reduceTDiv, Int.reduceTMod, implies_true, putL, appN, appX, appC, Eng.Fi, reduceCtorEq, exists_eq_left', exists_eq_left, if_true, if_false, List.replicate, Nat.reduceAdd, Nat.reduceSub, Nat.reduceMul, Nat.reduceLeDiff, Nat.reduceLT, Nat.reduceEqDiff]
def cf_wBox : List AV → Option AV
  | [] => some (.agg [I 0, I 2, I 10, I 12, I 8, I 10])
  | _ => none
theorem g_wBox : Fn P 42 cf_wBox := fun args v h => by
  unfold cf_wBox at h; split at h
  · have h := Option.some.inj h; subst h; exact k_wBox 
  · cases h
theorem x_wBox : cf_wBox [] = some (.agg [I 0, I 2, I 10, I 12, I 8, I 10]) := rfl
theorem k_wDrift : FOk P 43 [] (eBx ⟨-1, 1, 1, 2, 0, 1⟩) := by
  refine c43.fok rfl (Cor.run (noC_good _) (noHx_good _) hm ?_)
  simp +contextual -implicitDefEqProofs (maxSteps := 2000000) only [bg_eq, a43, ruB, rh_no, Int.reduceLT, Int.reduceLE, Int.reduceAdd, Int.reduceSub, Int.reduceMul, Int.reduceNeg, Int.reduceToNat, Int.reduceEq, Int.reduceNe, Int.reduceTDiv, Int.reduceTMod, implies_true, putL, appN, appX, appC, Eng.Fi, reduceCtorEq, exists_eq_left', exists_eq_left, if_true, if_false, List.replicate, Nat.reduceAdd, Nat.reduceSub, Nat.reduceMul, Nat.reduceLeDiff, Nat.reduceLT, Nat.reduceEqDiff]
def cf_wDrift : List AV → Option AV
  | [] => some (.agg [I (-1), I 1, I 1, I 2, I 0, I 1])
  | _ => none
theorem g_wDrift : Fn P 43 cf_wDrift := fun args v h => by
  unfold cf_wDrift at h; split at h
  · have h := Option.some.inj h; subst h; exact k_wDrift 
  · cases h
theorem x_wDrift : cf_wDrift [] = some (.agg [I (-1), I 1, I 1, I 2, I 0, I 1]) := rfl
theorem k_wCorridor : FOk P 44 [] (eCo ⟨-100, 100, 5, 50, 1, 0, 20⟩) := by
  refine c44.fok rfl (Cor.run (noC_good _) (noHx_good _) hm ?_)
  simp +contextual -implicitDefEqProofs (maxSteps := 2000000) only [bg_eq, a44, ruB, rh_no, Int.reduceLT, Int.reduceLE, Int.reduceAdd, Int.reduceSub, Int.reduceMul, Int.reduceNeg, Int.reduceToNat, Int.reduceEq, Int.reduceNe, Int.reduceTDiv, Int.reduceTMod, implies_true, putL, appN, appX, appC, Eng.Fi, reduceCtorEq, exists_eq_left', exists_eq_left, if_true, if_false, List.replicate, Nat.reduceAdd, Nat.reduceSub, Nat.reduceMul, Nat.reduceLeDiff, Nat.reduceLT, Nat.reduceEqDiff]
def cf_wCorridor : List AV → Option AV
  | [] => some (.agg [I (-100), I 100, I 5, I 50, I 1, I 0, I 20])
  | _ => none
theorem g_wCorridor : Fn P 44 cf_wCorridor := fun args v h => by
  unfold cf_wCorridor at h; split at h
  · have h := Option.some.inj h; subst h; exact k_wCorridor 
  · cases h
theorem x_wCorridor : cf_wCorridor [] = some (.agg [I (-100), I 100, I 5, I 50, I 1, I 0, I 20]) := rfl
theorem v_ra : raV ⟨0, 10, 3, 10⟩ ⟨0, 0, 1⟩ ⟨3, 14⟩ = .tup [I 20, I 0] := by kernel_rfl
theorem v_er : eRV ⟨0, 2, 10, 12, 8, 10⟩ ⟨-1, 1, 1, 2, 0, 1⟩ ⟨-100, 100, 5, 50, 1, 0, 20⟩ = .tup [I 8, I 0] := by kernel_rfl
theorem k_wakeShown : FOk P 6 [] (.bool true) := by
  have y1 : cf_RadialAt [.agg [I 0, I 10, I 3, I 10], .agg [I 0, I 0, I 1], .agg [I 3, I 14]] = some (.tup [I 20, I 0]) := (x_RadialAt ⟨0, 10, 3, 10⟩ ⟨0, 0, 1⟩ ⟨3, 14⟩).trans (by rw [v_ra])
  have y2 : cf_EarliestFree [.agg [I 0, I 2, I 10, I 12, I 8, I 10], .agg [I (-1), I 1, I 1, I 2, I 0, I 1], .agg [I (-100), I 100, I 5, I 50, I 1, I 0, I 20]] = some (.tup [I 8, I 0]) := (x_EarliestFree ⟨0, 2, 10, 12, 8, 10⟩ ⟨-1, 1, 1, 2, 0, 1⟩ ⟨-100, 100, 5, 50, 1, 0, 20⟩).trans (by rw [v_er])
  refine c6.fok rfl (Cor.run (addC_good g_EarliestFree (addC_good g_RadialAt (addC_good g_wCorridor (addC_good g_wDrift (addC_good g_wBox (addC_good g_wSetup (addC_good g_wPair (noC_good _)))))))) (noHx_good _) hm ?_)
  simp +contextual -implicitDefEqProofs (maxSteps := 2000000) only [bg_eq, a6, x_wPair, x_wSetup, x_wBox, x_wDrift, x_wCorridor, y1, y2, ruB, rh_no, Int.reduceLT, Int.reduceLE, Int.reduceAdd, Int.reduceSub, Int.reduceMul, Int.reduceNeg, Int.reduceToNat, Int.reduceEq, Int.reduceNe, Int.reduceTDiv, Int.reduceTMod, implies_true, putL, appN, appX, appC, Eng.Fi, reduceCtorEq, exists_eq_left', exists_eq_left, if_true, if_false, List.replicate, Nat.reduceAdd, Nat.reduceSub, Nat.reduceMul, Nat.reduceLeDiff, Nat.reduceLT, Nat.reduceEqDiff]
def cf_wakeShown : List AV → Option AV
  | [] => some (.bool true)
  | _ => none
theorem g_wakeShown : Fn P 6 cf_wakeShown := fun args v h => by
  unfold cf_wakeShown at h; split at h
  · have h := Option.some.inj h; subst h; exact k_wakeShown 
  · cases h
theorem x_wakeShown : cf_wakeShown [] = some (.bool true) := rfl
theorem pgG_cases (d : Bx) : ∀ (r : List Vo) (i : Nat) (v : Vo), pgG d i v r = (0, 0) ∨ ∃ j : Nat, j < r.length ∧ pgG d i v r = (((i + 1 + j : Nat) : Int), 17)
  | [], i, v => .inl rfl
  | w :: r, i, v => by
    rw [pgG]
    split
    · rcases pgG_cases d r (i + 1) w with h | ⟨j, h1, h2⟩
      · exact .inl h
      · exact .inr ⟨j + 1, by simp; omega, by rw [h2]; congr 2; omega⟩
    · exact .inr ⟨0, by simp, rfl⟩
theorem cpG_cases (b d : Bx) (l : List Vo) (h : 0 < l.length) : (cpG b d l = (0, 0) ∧ ∃ h, hoP b l[0] ∧ pgG d 0 l[0] (l.drop 1) = (0, 0)) ∨ ∃ j : Nat, j < l.length ∧ cpG b d l = ((j : Int), 17) := by
  cases l with
  | nil => simp at h
  | cons v r =>
    rw [cpG]
    split
    · rename_i hv
      rcases pgG_cases d r 0 v with h | ⟨j, h1, h2⟩
      · exact .inl ⟨h, by simp, hv, h⟩
      · exact .inr ⟨0 + 1 + j, by simp; omega, h2⟩
    · exact .inr ⟨0, by simp, rfl⟩
theorem pgG_step {d : Bx} : ∀ {r : List Vo} {i : Nat} {v : Vo}, pgG d i v r = (0, 0) → ∀ k, ∀ h : k + 1 < (v :: r).length, stP d (v :: r)[k] (v :: r)[k + 1]
  | [], i, v, _, k, h => by simp at h
  | w :: r, i, v, hp, k, h => by
    rw [pgG] at hp
    split at hp
    · rename_i hs
      cases k with
      | zero => exact hs
      | succ k => exact pgG_step hp k (by simpa using h)
    · simp at hp
/-- from vertex i of an accepted path k steps on -/
theorem ho_path {b d : Bx} {l : List Vo} (hb : bxR b) (hd : dfR d) (hs : ∀ k, ∀ h : k + 1 < l.length, stP d l[k] l[k + 1]) {i : Nat} (hi : i < l.length) (h0 : hoP b l[i]) : ∀ k : Nat, ∀ h : i + k < l.length, hoP (afV b d k) l[i + k]
  | 0, h => by
    have := af_zero (d := d) hb
    show hoP (afV b d 0) _
    rw [this]; exact h0
  | k + 1, h => by
    have h1 := ho_path hb hd hs hi h0 k (by omega)
    exact ho_step hd h1 (hs (i + k) (by omega))
theorem frG_two {b d : Bx} {c : Co} : ∀ (n : Nat) (t a : Int), frG b d c n t a = 2 → a = 2 ∧ ∀ k : Nat, k < n → ¬ toP (afV b d (t + k)) c
  | 0, t, a, h => ⟨h, fun k hk => by omega⟩
  | n + 1, t, a, h => by
    rw [frG] at h
    split at h
    · simp at h
    · obtain ⟨h1, h2⟩ := frG_two n _ _ h
      split at h1
      · simp at h1
      · rename_i hno
        refine ⟨h1, fun k hk => ?_⟩
        cases k with
        | zero => simpa using hno
        | succ k =>
          have := h2 k (by omega)
          have e : t + 1 + (k : Int) = t + ((k + 1 : Nat) : Int) := by omega
          rwa [e] at this
theorem free_no {m d : Bx} {c : Co} (hf : iF m d c = 2) {k : Int} (h1 : c.fr ≤ k) (h2 : k ≤ c.to) {v : Vo} (hv : hoP (afV m d k) v) : ¬ hoP (reG c) v := by
  obtain ⟨_, h⟩ := frG_two _ _ _ hf
  have h := h (k - c.fr).toNat (by omega)
  have e : c.fr + ((k - c.fr).toNat : Int) = k := by omega
  rw [e] at h
  intro hr
  apply h
  unfold hoP at hv hr
  unfold reG at hr
  unfold toP
  simp only at hr
  omega
theorem me_ok {a b : Bx} {v : Vo} (ha : bxE a = 0) (hb : bxE b = 0) (h1 : hoP a v) (h2 : hoP b v) : mnP a b ∧ bxE (meB a b) = 0 := by
  obtain ⟨a0, _⟩ := bxE_z ha
  obtain ⟨b0, _⟩ := bxE_z hb
  unfold hoP at h1 h2
  have hm : mnP a b := by
    unfold mnP meB
    simp only
    omega
  refine ⟨hm, ?_⟩
  unfold mnP at hm
  unfold bxR inR at a0 b0
  unfold meB at hm ⊢
  simp only at hm ⊢
  refine firstE_all fun e he => ?_
  simp only [List.mem_cons, List.not_mem_nil, or_false] at he
  rcases he with rfl | rfl | rfl | rfl
  · refine unl_t _ ?_
    unfold bxR inR
    simp only
    omega
  · exact unl_t _ hm.1.1
  · exact unl_t _ hm.1.2
  · exact unl_t _ hm.2
theorem mn_sub {a b : Bx} (h : subP a b) (ha : bxE a = 0) : mnP a b := by
  obtain ⟨_, h1, h2, h3⟩ := bxE_z ha
  unfold subP at h
  unfold mnP meB
  simp only
  omega
end Wa
