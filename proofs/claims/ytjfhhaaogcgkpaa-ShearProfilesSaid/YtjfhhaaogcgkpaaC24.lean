import Derived.Test.YtjfhhaaogcgkpaaEngS9
import Derived.Test.YtjfhhaaogcgkpaaC20
open Go Go.Proofs Eng
set_option maxRecDepth 100000
set_option linter.unusedSimpArgs false
set_option linter.unusedVariables false
def a34 : AC := .seq (.ops false [] [⟨some 2, .p (.mov), [.c (.bool false)], none⟩]) (.seq (.ops false [] [⟨some 3, .p (.mov), [.t 0], none⟩, ⟨some 4, .p (.lenS), [.t 3], none⟩, ⟨some 5, .p (.binI .leq), [.t 4, .c (.int .i64 22)], none⟩, ⟨some 2, .p (.mov), [.t 5], none⟩]) (.ret))
theorem c34 : FnC Try.prog 34 6 a34 [.tmp 2] := ⟨Try.call34, _, _, Try.func34, rfl, by kernel_rfl, by kernel_rfl, rfl⟩
def a35 : AC := .seq (.ops false [] [⟨some 1, .box 64 2 1 true, [.t 0], none⟩, ⟨some 2, .p (.mov), [.c (.int .i64 0)], none⟩]) (.seq (.seq (.ops false [] [⟨some 3, .p (.faddr 0), [.t 1], none⟩, ⟨some 4, .load 1 false, [.t 3], none⟩, ⟨some 5, .call 42, [.t 4], none⟩, ⟨some 6, .p (.binI .neq), [.t 5, .c (.int .i64 0)], none⟩, ⟨some 7, .p (.mov), [.t 6], none⟩, ⟨some 8, .p (.faddr 1), [.t 1], some (7, false)⟩, ⟨some 9, .load 1 false, [.t 8], some (7, false)⟩, ⟨some 10, .call 42, [.t 9], some (7, false)⟩, ⟨some 11, .p (.binI .neq), [.t 10, .c (.int .i64 0)], some (7, false)⟩, ⟨some 12, .p (.pick), [.t 7, .c (.bool true), .t 11], none⟩]) (.cond (.t 12) (.seq (.ops false [] [⟨some 2, .p (.mov), [.c (.int .i64 2)], none⟩]) (.ret)) (.skip))) (.seq (.seq (.ops false [] [⟨some 13, .p (.faddr 0), [.t 1], none⟩, ⟨some 14, .load 1 false, [.t 13], none⟩, ⟨some 15, .p (.faddr 1), [.t 1], none⟩, ⟨some 16, .load 1 false, [.t 15], none⟩, ⟨some 17, .p (.binI .gtr), [.t 14, .t 16], none⟩]) (.cond (.t 17) (.seq (.ops false [] [⟨some 2, .p (.mov), [.c (.int .i64 9)], none⟩]) (.ret)) (.skip))) (.seq (.ops false [] [⟨some 2, .p (.mov), [.c (.int .i64 0)], none⟩]) (.ret))))
theorem c35 : FnC Try.prog 35 18 a35 [.tmp 2] := ⟨Try.call35, _, _, Try.func35, rfl, by kernel_rfl, by kernel_rfl, rfl⟩
def a37 : AC := .seq (.ops false [] [⟨some 2, .p (.mov), [.c (.nilslice)], none⟩]) (.seq (.ops false [] [⟨some 3, .bsl 117 3, [], none⟩, ⟨some 4, .p (.mov), [.t 0], none⟩, ⟨some 5, .app 117 3 24, [.t 3, .t 4], none⟩, ⟨some 2, .p (.mov), [.t 5], none⟩]) (.ret))
theorem c37 : FnC Try.prog 37 6 a37 [.tmp 2] := ⟨Try.call37, _, _, Try.func37, rfl, by kernel_rfl, by kernel_rfl, rfl⟩
def a38 : AC := .seq (.ops false [] [⟨some 3, .box 64 2 1 true, [.t 1], none⟩, ⟨some 4, .alloc 64 2 [.agg [.int .i64 0, .int .i64 0]], [], none⟩, ⟨some 5, .p (.mov), [.c (.int .i64 0)], none⟩]) (.seq (.ops false [] [⟨some 8, .load 2 true, [.t 3], none⟩, ⟨some 6, .alloc 164 2 [.agg [.int .i64 0, .int .i64 0]], [], none⟩, ⟨none, .store 2 true, [.t 6, .t 8], none⟩]) (.seq (.seq (.ops true [] [⟨some 9, .p (.mov), [.t 0], none⟩, ⟨some 10, .call 98, [.t 9], none⟩, ⟨some 11, .p (.mov), [.t 10], none⟩, ⟨some 12, .load 2 true, [.t 6], some (11, true)⟩, ⟨some 13, .call 100, [.t 12, .c (.int .i64 1), .c (.int .i64 1000)], some (11, true)⟩, ⟨some 14, .p (.pick), [.t 11, .t 13, .c (.bool false)], none⟩, ⟨some 15, .call 85, [.t 14, .c (.int .i64 2)], none⟩, ⟨some 16, .load 2 true, [.t 6], none⟩, ⟨some 17, .call 101, [.t 16], none⟩, ⟨some 18, .fbs 1, [.t 15, .t 17], none⟩, ⟨some 19, .call 84, [.t 18], none⟩, ⟨some 7, .p (.mov), [.t 19], none⟩]) (.seq (.ops false [] [⟨some 20, .p (.mov), [.t 7], none⟩, ⟨some 21, .p (.binI .neq), [.t 20, .c (.int .i64 0)], none⟩]) (.cond (.t 21) (.seq (.ops false [] [⟨some 22, .p (.build [.int .i64 0, .int .i64 0] []), [], none⟩, ⟨some 23, .p (.mov), [.t 7], none⟩, ⟨none, .store 2 true, [.t 4, .t 22], none⟩, ⟨some 5, .p (.mov), [.t 23], none⟩]) (.ret)) (.skip)))) (.seq (.ops true [] [⟨some 24, .p (.mov), [.t 0], none⟩, ⟨some 25, .p (.faddr 1), [.t 6], none⟩, ⟨some 26, .load 1 false, [.t 25], none⟩, ⟨some 27, .call 102, [.t 24, .t 26], none⟩, ⟨some 28, .p (.mov), [.t 0], none⟩, ⟨some 29, .p (.faddr 0), [.t 6], none⟩, ⟨some 30, .load 1 false, [.t 29], none⟩, ⟨some 31, .call 103, [.t 28, .t 30], none⟩, ⟨some 32, .p (.build [.int .i64 0, .int .i64 0] [(0, 1), (1, 1)]), [.t 27, .t 31], none⟩, ⟨none, .store 2 true, [.t 4, .t 32], none⟩, ⟨some 5, .p (.mov), [.c (.int .i64 0)], none⟩]) (.ret))))
theorem c38 : FnC Try.prog 38 33 a38 [.cell 4 2 true, .tmp 5] := ⟨Try.call38, _, _, Try.func38, rfl, by kernel_rfl, by kernel_rfl, rfl⟩
def a39 : AC := .seq (.ops false [] [⟨some 3, .box 64 2 1 true, [.t 1], none⟩, ⟨some 4, .p (.mov), [.c (.int .i64 0)], none⟩]) (.seq (.ops false [] [⟨some 5, .p (.mov), [.c (.int .i64 1000)], none⟩]) (.seq (.seq (.ops false [] [⟨some 6, .p (.mov), [.t 0], none⟩, ⟨some 7, .call 42, [.t 6], none⟩, ⟨some 8, .p (.binI .neq), [.t 7, .c (.int .i64 0)], none⟩, ⟨some 9, .p (.mov), [.t 8], none⟩, ⟨some 10, .p (.faddr 0), [.t 3], some (9, false)⟩, ⟨some 11, .load 1 false, [.t 10], some (9, false)⟩, ⟨some 12, .p (.mov), [.t 5], some (9, false)⟩, ⟨some 13, .call 33, [.t 11, .c (.int .i64 1), .t 12], some (9, false)⟩, ⟨some 14, .p (.notB), [.t 13], some (9, false)⟩, ⟨some 15, .p (.pick), [.t 9, .c (.bool true), .t 14], none⟩, ⟨some 16, .p (.mov), [.t 15], none⟩, ⟨some 17, .p (.faddr 1), [.t 3], some (16, false)⟩, ⟨some 18, .load 1 false, [.t 17], some (16, false)⟩, ⟨some 19, .p (.mov), [.t 5], some (16, false)⟩, ⟨some 20, .call 33, [.t 18, .c (.int .i64 1), .t 19], some (16, false)⟩, ⟨some 21, .p (.notB), [.t 20], some (16, false)⟩, ⟨some 22, .p (.pick), [.t 16, .c (.bool true), .t 21], none⟩]) (.cond (.t 22) (.seq (.ops false [] [⟨some 4, .p (.mov), [.c (.int .i64 2)], none⟩]) (.ret)) (.skip))) (.seq (.seq (.ops false [] [⟨some 23, .p (.faddr 0), [.t 3], none⟩, ⟨some 24, .load 1 false, [.t 23], none⟩, ⟨some 25, .p (.faddr 1), [.t 3], none⟩, ⟨some 26, .load 1 false, [.t 25], none⟩, ⟨some 27, .p (.binI .gtr), [.t 24, .t 26], none⟩]) (.cond (.t 27) (.seq (.ops false [] [⟨some 4, .p (.mov), [.c (.int .i64 9)], none⟩]) (.ret)) (.skip))) (.seq (.ops false [] [⟨some 4, .p (.mov), [.c (.int .i64 0)], none⟩]) (.ret)))))
theorem c39 : FnC Try.prog 39 28 a39 [.tmp 4] := ⟨Try.call39, _, _, Try.func39, rfl, by kernel_rfl, by kernel_rfl, rfl⟩
def a40 : AC := .seq (.ops false [] [⟨some 3, .box 64 2 1 true, [.t 1], none⟩, ⟨some 4, .alloc 64 2 [.agg [.int .i64 0, .int .i64 0]], [], none⟩]) (.seq (.ops true [] [⟨some 5, .p (.mov), [.t 0], none⟩, ⟨some 6, .p (.faddr 1), [.t 3], none⟩, ⟨some 7, .load 1 false, [.t 6], none⟩, ⟨some 8, .call 104, [.t 5, .t 7], none⟩, ⟨some 9, .p (.mov), [.t 0], none⟩, ⟨some 10, .p (.faddr 0), [.t 3], none⟩, ⟨some 11, .load 1 false, [.t 10], none⟩, ⟨some 12, .call 105, [.t 9, .t 11], none⟩, ⟨some 13, .p (.build [.int .i64 0, .int .i64 0] [(0, 1), (1, 1)]), [.t 8, .t 12], none⟩, ⟨none, .store 2 true, [.t 4, .t 13], none⟩]) (.ret))
theorem c40 : FnC Try.prog 40 14 a40 [.cell 4 2 true] := ⟨Try.call40, _, _, Try.func40, rfl, by kernel_rfl, by kernel_rfl, rfl⟩
def a42 : AC := .seq (.ops false [] [⟨some 2, .p (.mov), [.c (.int .i64 0)], none⟩]) (.seq (.seq (.ops false [] [⟨some 3, .p (.mov), [.t 0], none⟩, ⟨some 4, .call 33, [.t 3, .c (.int .i64 0), .c (.int .i64 50000)], none⟩, ⟨some 5, .p (.notB), [.t 4], none⟩]) (.cond (.t 5) (.seq (.ops false [] [⟨some 2, .p (.mov), [.c (.int .i64 2)], none⟩]) (.ret)) (.skip))) (.seq (.ops false [] [⟨some 2, .p (.mov), [.c (.int .i64 0)], none⟩]) (.ret)))
theorem c42 : FnC Try.prog 42 6 a42 [.tmp 2] := ⟨Try.call42, _, _, Try.func42, rfl, by kernel_rfl, by kernel_rfl, rfl⟩
def a46 : AC := .seq (.ops false [] [⟨some 6, .p (.mov), [.c (.bool false)], none⟩]) (.seq (.seq (.ops false [] [⟨some 7, .p (.mov), [.c (.int .i64 0)], none⟩]) (.block 0 (.loop (.seq (.seq (.ops false [] [⟨some 8, .p (.mov), [.t 7], none⟩, ⟨some 9, .p (.mov), [.t 0], none⟩, ⟨some 10, .p (.lenS), [.t 9], none⟩, ⟨some 11, .p (.binI .lss), [.t 8, .t 10], none⟩]) (.cond (.t 11) (.skip) (.exit 0))) (.seq (.block 1 (.seq (.ops false [] [⟨some 14, .p (.mov), [.t 0], none⟩, ⟨some 15, .p (.mov), [.t 7], none⟩, ⟨some 16, .p (.iaddrS 3), [.t 14, .t 15], none⟩, ⟨some 17, .p (.faddr 0), [.t 16], none⟩, ⟨some 18, .load 1 false, [.t 17], none⟩, ⟨some 19, .p (.mov), [.t 2], none⟩, ⟨some 20, .p (.binI .sub), [.t 18, .t 19], none⟩, ⟨some 21, .call 106, [.t 20], none⟩, ⟨some 22, .p (.mov), [.t 1], none⟩, ⟨some 23, .p (.binI .leq), [.t 21, .t 22], none⟩]) (.cond (.t 23) (.seq (.ops false [] [⟨some 6, .p (.mov), [.c (.bool false)], none⟩]) (.ret)) (.skip)))) (.ops false [] [⟨some 12, .p (.mov), [.t 7], none⟩, ⟨some 13, .p (.binI .add), [.t 12, .c (.int .i64 1)], none⟩, ⟨some 7, .p (.mov), [.t 13], none⟩])))))) (.seq (.ops false [] [⟨some 6, .p (.mov), [.c (.bool true)], none⟩]) (.ret)))
theorem c46 : FnC Try.prog 46 24 a46 [.tmp 6] := ⟨Try.call46, _, _, Try.func46, rfl, by kernel_rfl, by kernel_rfl, rfl⟩
def a100 : AC := .seq (.ops false [] [⟨some 3, .box 164 2 1 true, [.t 0], none⟩, ⟨some 6, .p (.mov), [.c (.bool false)], none⟩]) (.seq (.ops false [] [⟨some 7, .p (.faddr 0), [.t 3], none⟩, ⟨some 8, .load 1 false, [.t 7], none⟩, ⟨some 9, .p (.mov), [.t 1], none⟩, ⟨some 10, .p (.mov), [.t 2], none⟩, ⟨some 11, .call 107, [.t 8, .t 9, .t 10], none⟩, ⟨some 12, .p (.mov), [.t 11], none⟩, ⟨some 13, .p (.faddr 1), [.t 3], some (12, true)⟩, ⟨some 14, .load 1 false, [.t 13], some (12, true)⟩, ⟨some 15, .p (.mov), [.t 1], some (12, true)⟩, ⟨some 16, .p (.mov), [.t 2], some (12, true)⟩, ⟨some 17, .call 107, [.t 14, .t 15, .t 16], some (12, true)⟩, ⟨some 18, .p (.pick), [.t 12, .t 17, .c (.bool false)], none⟩, ⟨some 6, .p (.mov), [.t 18], none⟩]) (.ret))
theorem c100 : FnC Try.prog 100 19 a100 [.tmp 6] := ⟨Try.call100, _, _, Try.func100, rfl, by kernel_rfl, by kernel_rfl, rfl⟩
def a106 : AC := .seq (.ops false [] [⟨some 2, .p (.mov), [.c (.int .i64 0)], none⟩]) (.seq (.ops false [] [⟨some 3, .p (.mov), [.t 0], none⟩, ⟨some 4, .p (.mov), [.t 0], none⟩, ⟨some 5, .p (.neg), [.t 4], none⟩, ⟨some 6, .p (.mm true), [.t 3, .t 5], none⟩, ⟨some 2, .p (.mov), [.t 6], none⟩]) (.ret))
theorem c106 : FnC Try.prog 106 7 a106 [.tmp 2] := ⟨Try.call106, _, _, Try.func106, rfl, by kernel_rfl, by kernel_rfl, rfl⟩
namespace Sh

/-! profiles of the reference -/
theorem k34 (l : List Gt) : FOk P 34 [.vs (l.map eG)] (B (decide ((l.length : Int) ≤ 22))) := by
  refine c34.fok (by simp only [subs, sub1, free_G]) (Cor.run (noC_good _) (noHx_good _) hm ?_)
  simp +contextual -implicitDefEqProofs (maxSteps := 2000000) only [bg_eq, a34, List.length_map, ruB, rh_no, Int.reduceLT, Int.reduceLE, Int.reduceAdd, Int.reduceSub, Int.reduceMul, Int.reduceNeg, Int.reduceToNat, Int.reduceEq, Int.reduceNe, Int.reduceTDiv, Int.reduceTMod, implies_true, putL, appN, appX, appC, Eng.Fi, reduceCtorEq, exists_eq_left', exists_eq_left, if_true, if_false, List.replicate, Nat.reduceAdd, Nat.reduceSub, Nat.reduceMul, Nat.reduceLeDiff, Nat.reduceLT, Nat.reduceEqDiff]
def c34f : List AV → Option AV
  | [.vs vals] => onL dG vals fun l => some (B (decide ((l.length : Int) ≤ 22)))
  | _ => none
theorem g34 : Fn P 34 c34f := fun args v h => by
  unfold c34f at h; split at h
  · obtain ⟨l, rfl, h2⟩ := onL_inv dG_inv h
    cases h2; exact k34 l
  · cases h
theorem x34 (l : List Gt) : c34f [.vs (l.map eG)] = some (.bool (decide ((l.length : Int) ≤ 22))) := by simp only [c34f, onL_map dG_e]
theorem k37 (l : List Gt) (hl : l.length ≤ 1000) : FOk P 37 [.vs (l.map eG)] (.vs (l.map eG)) := by
  have m1 : (l.length ≤ maxLen) = True := by simp only [eq_iff_iff, iff_true]; exact Nat.le_trans hl (by decide)
  have m2 : (l.length * 24 ≤ 140737488355328) = True := by simp only [eq_iff_iff, iff_true]; omega
  have m3 : (l.map eG).all (fun v => decide (v.cells.length = 3)) = true := by simp [List.all_map, AV.cells]
  refine c37.fok (by simp only [subs, sub1, free_G]) (Cor.run (noC_good _) (noHx_good _) hm ?_)
  simp +contextual -implicitDefEqProofs (maxSteps := 2000000) only [bg_eq, a37, List.length_map, m1, m2, m3, ruB, rh_no, Int.reduceLT, Int.reduceLE, Int.reduceAdd, Int.reduceSub, Int.reduceMul, Int.reduceNeg, Int.reduceToNat, Int.reduceEq, Int.reduceNe, Int.reduceTDiv, Int.reduceTMod, implies_true, putL, appN, appX, appC, Eng.Fi, reduceCtorEq, exists_eq_left', exists_eq_left, if_true, if_false, List.replicate, Nat.reduceAdd, Nat.reduceSub, Nat.reduceMul, Nat.reduceLeDiff, Nat.reduceLT, Nat.reduceEqDiff]
  have t1 : (l.map eG).take l.length = l.map eG := by rw [List.take_of_length_le]; simp
  simp [free_G, t1]
def c37f : List AV → Option AV
  | [.vs vals] => onL dG vals fun l => if l.length ≤ 1000 then some (.vs (l.map eG)) else none
  | _ => none
theorem g37 : Fn P 37 c37f := fun args v h => by
  unfold c37f at h; split at h
  · obtain ⟨l, rfl, h2⟩ := onL_inv dG_inv h
    split at h2
    · rename_i hc; cases h2; exact k37 l  hc
    · cases h2
  · cases h
theorem x37 (l : List Gt) (h : (l.length ≤ 1000) = True) : c37f [.vs (l.map eG)] = some (.vs (l.map eG)) := by
  simp only [c37f, onL_map dG_e, h, if_true]
def atE (n : Int) : Int := unl (0 ≤ n ∧ n ≤ 50000) 2
theorem k42 (n : Int) : FOk P 42 [I n] (I (atE n)) := by
  by_cases h : 0 ≤ n ∧ n ≤ 50000
  · rw [show atE n = 0 from unl_t _ h]
    refine c42.fok rfl (Cor.run (addC_good g33 (noC_good _)) (noHx_good _) hm ?_)
    simp +contextual -implicitDefEqProofs (maxSteps := 2000000) only [bg_eq, a42, x33, h, ruB, rh_no, Int.reduceLT, Int.reduceLE, Int.reduceAdd, Int.reduceSub, Int.reduceMul, Int.reduceNeg, Int.reduceToNat, Int.reduceEq, Int.reduceNe, Int.reduceTDiv, Int.reduceTMod, implies_true, putL, appN, appX, appC, Eng.Fi, reduceCtorEq, exists_eq_left', exists_eq_left, if_true, if_false, List.replicate, Nat.reduceAdd, Nat.reduceSub, Nat.reduceMul, Nat.reduceLeDiff, Nat.reduceLT, Nat.reduceEqDiff]
  · rw [show atE n = 2 from unl_f _ h]
    have h' : (0 ≤ n ∧ n ≤ 50000) = False := by simp only [eq_iff_iff, iff_false]; exact h
    refine c42.fok rfl (Cor.run (addC_good g33 (noC_good _)) (noHx_good _) hm ?_)
    simp +contextual -implicitDefEqProofs (maxSteps := 2000000) only [bg_eq, a42, x33, h', ruB, rh_no, Int.reduceLT, Int.reduceLE, Int.reduceAdd, Int.reduceSub, Int.reduceMul, Int.reduceNeg, Int.reduceToNat, Int.reduceEq, Int.reduceNe, Int.reduceTDiv, Int.reduceTMod, implies_true, putL, appN, appX, appC, Eng.Fi, reduceCtorEq, exists_eq_left', exists_eq_left, if_true, if_false, List.replicate, Nat.reduceAdd, Nat.reduceSub, Nat.reduceMul, Nat.reduceLeDiff, Nat.reduceLT, Nat.reduceEqDiff]
def c42f : List AV → Option AV
  | [.int .i64 n] => some (.int .i64 (atE n))
  | _ => none
theorem g42 : Fn P 42 c42f := fun args v h => by
  unfold c42f at h; split at h
  · cases h; exact k42 _
  · cases h
theorem x42 (n : Int) : c42f [.int .i64 n] = some (.int .i64 (atE n)) := rfl
theorem atE_z {n : Int} : (atE n = 0) = (0 ≤ n ∧ n ≤ 50000) := by
  simp only [atE, eq_iff_iff]; exact ⟨fun h => unl_zero h (by decide), fun h => unl_t _ h⟩
def spE (a b : Int) : Int := firstE [unl ((0 ≤ a ∧ a ≤ 50000) ∧ (0 ≤ b ∧ b ≤ 50000)) 2, unl (a ≤ b) 9]
theorem spE_val (a b : Int) : spE a b = if (0 ≤ a ∧ a ≤ 50000) ∧ (0 ≤ b ∧ b ≤ 50000) then (if a ≤ b then 0 else 9) else 2 := by
  unfold spE
  by_cases h : (0 ≤ a ∧ a ≤ 50000) ∧ (0 ≤ b ∧ b ≤ 50000)
  · by_cases h2 : a ≤ b
    · simp [firstE, unl, h, h2]
    · simp [firstE, unl, h, h2]
  · simp [firstE, unl, h]
theorem k35 (a b : Int) : FOk P 35 [.agg [I a, I b]] (I (spE a b)) := by
  refine c35.fok rfl (Cor.run (addC_good g42 (noC_good _)) (noHx_good _) hm ?_)
  simp +contextual -implicitDefEqProofs (maxSteps := 2000000) only [bg_eq, a35, x42, atE_z, spE_val, ruB, rh_no, Int.reduceLT, Int.reduceLE, Int.reduceAdd, Int.reduceSub, Int.reduceMul, Int.reduceNeg, Int.reduceToNat, Int.reduceEq, Int.reduceNe, Int.reduceTDiv, Int.reduceTMod, implies_true, putL, appN, appX, appC, Eng.Fi, reduceCtorEq, exists_eq_left', exists_eq_left, if_true, if_false, List.replicate, Nat.reduceAdd, Nat.reduceSub, Nat.reduceMul, Nat.reduceLeDiff, Nat.reduceLT, Nat.reduceEqDiff]
  refine ⟨fun h => ?_, fun h => ⟨fun h2 => ?_, fun h2 => ?_⟩⟩
  · rw [if_neg (by omega)]
  · rw [if_pos (by omega), if_neg (by omega)]
  · rw [if_pos (by omega), if_pos (by omega)]
def c35f : List AV → Option AV
  | [.agg [.int .i64 a, .int .i64 b]] => some (.int .i64 (spE a b))
  | _ => none
theorem g35 : Fn P 35 c35f := fun args v h => by
  unfold c35f at h; split at h
  · cases h; exact k35 _ _
  · cases h
theorem x35 (a b : Int) : c35f [.agg [.int .i64 a, .int .i64 b]] = some (.int .i64 (spE a b)) := rfl
theorem k100 (a b m n : Int) : FOk P 100 [.agg [I a, I b], I m, I n] (B (decide ((m ≤ a ∧ a ≤ n) ∧ (m ≤ b ∧ b ≤ n)))) := by
  refine c100.fok rfl (Cor.run (addC_good g107 (noC_good _)) (noHx_good _) hm ?_)
  simp +contextual -implicitDefEqProofs (maxSteps := 2000000) only [bg_eq, a100, x107, ruB, rh_no, Int.reduceLT, Int.reduceLE, Int.reduceAdd, Int.reduceSub, Int.reduceMul, Int.reduceNeg, Int.reduceToNat, Int.reduceEq, Int.reduceNe, Int.reduceTDiv, Int.reduceTMod, implies_true, putL, appN, appX, appC, Eng.Fi, reduceCtorEq, exists_eq_left', exists_eq_left, if_true, if_false, List.replicate, Nat.reduceAdd, Nat.reduceSub, Nat.reduceMul, Nat.reduceLeDiff, Nat.reduceLT, Nat.reduceEqDiff]
def c100f : List AV → Option AV
  | [.agg [.int .i64 a, .int .i64 b], .int .i64 m, .int .i64 n] => some (.bool (decide ((m ≤ a ∧ a ≤ n) ∧ (m ≤ b ∧ b ≤ n))))
  | _ => none
theorem g100 : Fn P 100 c100f := fun args v h => by
  unfold c100f at h; split at h
  · cases h; exact k100 _ _ _ _
  · cases h
theorem x100 (a b m n : Int) : c100f [.agg [.int .i64 a, .int .i64 b], .int .i64 m, .int .i64 n] = some (.bool (decide ((m ≤ a ∧ a ≤ n) ∧ (m ≤ b ∧ b ≤ n)))) := rfl
/-! the lead -/
def ldE (n a b : Int) : Int := if (0 ≤ n ∧ n ≤ 50000) ∧ (1 ≤ a ∧ a ≤ 1000) ∧ (1 ≤ b ∧ b ≤ 1000) then (if a ≤ b then 0 else 9) else 2
def leadL (n a b : Int) : AV := if ldE n a b = 0 then .tup [.agg [I (n / b), I (-(-n / a))], I 0] else .tup [.agg [I 0, I 0], I (ldE n a b)]
theorem ldE_f (n a b : Int) : firstE [unl ((0 ≤ n ∧ n ≤ 50000) ∧ ((1 ≤ a ∧ a ≤ 1000) ∧ (1 ≤ b ∧ b ≤ 1000))) 2, unl (a ≤ b) 9] = ldE n a b := by
  unfold ldE
  by_cases h : (0 ≤ n ∧ n ≤ 50000) ∧ (1 ≤ a ∧ a ≤ 1000) ∧ (1 ≤ b ∧ b ≤ 1000)
  · by_cases h2 : a ≤ b
    · simp [firstE, unl, h, h2]
    · simp [firstE, unl, h, h2]
  · simp [firstE, unl, h]
theorem k38 (n a b : Int) : FOk P 38 [I n, .agg [I a, I b]] (leadL n a b) := by
  by_cases h : ldE n a b = 0
  · rw [leadL, if_pos h]
    have hb : ((0 ≤ n ∧ n ≤ 50000) ∧ (1 ≤ a ∧ a ≤ 1000) ∧ (1 ≤ b ∧ b ≤ 1000)) ∧ a ≤ b := by
      unfold ldE at h
      split at h
      · rename_i h1; split at h
        · rename_i h2; exact ⟨h1, h2⟩
        · omega
      · omega
    have o1 : okD' n b = True := by simp only [okD', eq_iff_iff, iff_true]; omega
    have o2 : okD' n a = True := by simp only [okD', eq_iff_iff, iff_true]; omega
    have hf := ldE_f n a b
    rw [h] at hf
    refine c38.fok rfl (Cor.run (addC_good g84 (addC_good g85 (addC_good g103 (addC_good g102 (addC_good g101 (addC_good g100 (addC_good g98 (noC_good _)))))))) (noHx_good _) hm ?_)
    simp +contextual -implicitDefEqProofs (maxSteps := 2000000) only [bg_eq, a38, x98, x100, x101, x85, x84, r84s, Lmax, hf, x102, x103, o1, o2, ruB, rh_no, Int.reduceLT, Int.reduceLE, Int.reduceAdd, Int.reduceSub, Int.reduceMul, Int.reduceNeg, Int.reduceToNat, Int.reduceEq, Int.reduceNe, Int.reduceTDiv, Int.reduceTMod, implies_true, putL, appN, appX, appC, Eng.Fi, reduceCtorEq, exists_eq_left', exists_eq_left, if_true, if_false, List.replicate, Nat.reduceAdd, Nat.reduceSub, Nat.reduceMul, Nat.reduceLeDiff, Nat.reduceLT, Nat.reduceEqDiff]
  · rw [leadL, if_neg h]
    have hf := ldE_f n a b
    refine c38.fok rfl (Cor.run (addC_good g84 (addC_good g85 (addC_good g103 (addC_good g102 (addC_good g101 (addC_good g100 (addC_good g98 (noC_good _)))))))) (noHx_good _) hm ?_)
    simp +contextual -implicitDefEqProofs (maxSteps := 2000000) only [bg_eq, a38, x98, x100, x101, x85, x84, r84s, Lmax, hf, h, ruB, rh_no, Int.reduceLT, Int.reduceLE, Int.reduceAdd, Int.reduceSub, Int.reduceMul, Int.reduceNeg, Int.reduceToNat, Int.reduceEq, Int.reduceNe, Int.reduceTDiv, Int.reduceTMod, implies_true, putL, appN, appX, appC, Eng.Fi, reduceCtorEq, exists_eq_left', exists_eq_left, if_true, if_false, List.replicate, Nat.reduceAdd, Nat.reduceSub, Nat.reduceMul, Nat.reduceLeDiff, Nat.reduceLT, Nat.reduceEqDiff]
def c38f : List AV → Option AV
  | [.int .i64 n, .agg [.int .i64 a, .int .i64 b]] => some (leadL n a b)
  | _ => none
theorem g38 : Fn P 38 c38f := fun args v h => by
  unfold c38f at h; split at h
  · cases h; exact k38 _ _ _
  · cases h
theorem x38 (n a b : Int) : c38f [.int .i64 n, .agg [.int .i64 a, .int .i64 b]] = some (leadL n a b) := rfl
theorem k39 (n a b : Int) : FOk P 39 [I n, .agg [I a, I b]] (I (ldE n a b)) := by
  refine c39.fok rfl (Cor.run (addC_good g33 (addC_good g42 (noC_good _))) (noHx_good _) hm ?_)
  simp +contextual -implicitDefEqProofs (maxSteps := 2000000) only [bg_eq, a39, x42, x33, atE_z, ruB, rh_no, Int.reduceLT, Int.reduceLE, Int.reduceAdd, Int.reduceSub, Int.reduceMul, Int.reduceNeg, Int.reduceToNat, Int.reduceEq, Int.reduceNe, Int.reduceTDiv, Int.reduceTMod, implies_true, putL, appN, appX, appC, Eng.Fi, reduceCtorEq, exists_eq_left', exists_eq_left, if_true, if_false, List.replicate, Nat.reduceAdd, Nat.reduceSub, Nat.reduceMul, Nat.reduceLeDiff, Nat.reduceLT, Nat.reduceEqDiff]
  refine ⟨fun h => ?_, fun h => ⟨fun h2 => ?_, fun h2 => ?_⟩⟩
  · rw [ldE, if_neg (by omega)]
  · rw [ldE, if_pos (by omega), if_neg (by omega)]
  · rw [ldE, if_pos (by omega), if_pos (by omega)]
def c39f : List AV → Option AV
  | [.int .i64 n, .agg [.int .i64 a, .int .i64 b]] => some (.int .i64 (ldE n a b))
  | _ => none
theorem g39 : Fn P 39 c39f := fun args v h => by
  unfold c39f at h; split at h
  · cases h; exact k39 _ _ _
  · cases h
theorem x39 (n a b : Int) : c39f [.int .i64 n, .agg [.int .i64 a, .int .i64 b]] = some (.int .i64 (ldE n a b)) := rfl
theorem k40 (n a b : Int) (h1 : okD' n b) (h2 : okD' n a) : FOk P 40 [I n, .agg [I a, I b]] (.agg [I (n / b), I (-(-n / a))]) := by
  have o1 : okD' n b = True := by simp only [h1]
  have o2 : okD' n a = True := by simp only [h2]
  refine c40.fok rfl (Cor.run (addC_good g105 (addC_good g104 (noC_good _))) (noHx_good _) hm ?_)
  simp +contextual -implicitDefEqProofs (maxSteps := 2000000) only [bg_eq, a40, x104, x105, o1, o2, ruB, rh_no, Int.reduceLT, Int.reduceLE, Int.reduceAdd, Int.reduceSub, Int.reduceMul, Int.reduceNeg, Int.reduceToNat, Int.reduceEq, Int.reduceNe, Int.reduceTDiv, Int.reduceTMod, implies_true, putL, appN, appX, appC, Eng.Fi, reduceCtorEq, exists_eq_left', exists_eq_left, if_true, if_false, List.replicate, Nat.reduceAdd, Nat.reduceSub, Nat.reduceMul, Nat.reduceLeDiff, Nat.reduceLT, Nat.reduceEqDiff]
def c40f : List AV → Option AV
  | [.int .i64 n, .agg [.int .i64 a, .int .i64 b]] => if okD' n b ∧ okD' n a then some (.agg [I (n / b), I (-(-n / a))]) else none
  | _ => none
theorem g40 : Fn P 40 c40f := fun args v h => by
  unfold c40f at h; split at h
  · split at h
    · rename_i hc; cases h; exact k40 _ _ _ hc.1 hc.2
    · cases h
  · cases h
theorem x40 (n a b : Int) (h : (okD' n b ∧ okD' n a) = True) : c40f [.int .i64 n, .agg [.int .i64 a, .int .i64 b]] = some (.agg [I (n / b), I (-(-n / a))]) := by simp only [c40f, h, if_true]
/-! a blind position -/
theorem k106 (n : Int) (h : -1000000000000 ≤ n ∧ n ≤ 1000000000000) : FOk P 106 [I n] (I (max n (-n))) := by
  have e0 : IntKind.wrap .i64 (0 - n) = -n := by rw [wrap64 (by omega) (by omega)]; omega
  refine c106.fok rfl (Cor.run (noC_good _) (noHx_good _) hm ?_)
  simp +contextual -implicitDefEqProofs (maxSteps := 2000000) only [bg_eq, a106, e0, ruB, rh_no, Int.reduceLT, Int.reduceLE, Int.reduceAdd, Int.reduceSub, Int.reduceMul, Int.reduceNeg, Int.reduceToNat, Int.reduceEq, Int.reduceNe, Int.reduceTDiv, Int.reduceTMod, implies_true, putL, appN, appX, appC, Eng.Fi, reduceCtorEq, exists_eq_left', exists_eq_left, if_true, if_false, List.replicate, Nat.reduceAdd, Nat.reduceSub, Nat.reduceMul, Nat.reduceLeDiff, Nat.reduceLT, Nat.reduceEqDiff]
def c106f : List AV → Option AV
  | [.int .i64 n] => if -1000000000000 ≤ n ∧ n ≤ 1000000000000 then some (I (max n (-n))) else none
  | _ => none
theorem g106 : Fn P 106 c106f := fun args v h => by
  unfold c106f at h; split at h
  · split at h
    · rename_i hc; cases h; exact k106 _ hc
    · cases h
  · cases h
theorem x106 (n : Int) (h : (-1000000000000 ≤ n ∧ n ≤ 1000000000000) = True) : c106f [.int .i64 n] = some (I (max n (-n))) := by simp only [c106f, h, if_true]
def near (gap at' : Int) (g : Gt) : Bool := decide (max (g.at' - at') (-(g.at' - at')) ≤ gap)
def isBl (l : List Gt) (gap at' : Int) : Bool := !(l.any (near gap at'))
def S46 (l : List Gt) (gap at' : Int) (n : Nat) : AState := ⟨[.vs (l.map eG), I gap, I at', .any, .any, .any, B false, I n, .any, .any, .any, .any, .any, .any, .any, .any, .any, .any, .any, .any, .any, .any, .any, .any], [], 0⟩
theorem k46 (l : List Gt) (gap at' : Int) (hl : l.length ≤ 1000) (hg : ∀ g ∈ l, 0 ≤ g.at' ∧ g.at' ≤ 50000) (ha : 0 ≤ at' ∧ at' ≤ 50000) : FOk P 46 [.vs (l.map eG), I gap, I at'] (B (isBl l gap at')) := by
  refine c46.fok (by simp only [subs, sub1, free_G]) (Cor.run (addC_good g106 (noC_good _)) (noHx_good _) hm ?_)
  simp +contextual -implicitDefEqProofs (maxSteps := 2000000) only [bg_eq, a46, List.length_map, ruB, rh_no, Int.reduceLT, Int.reduceLE, Int.reduceAdd, Int.reduceSub, Int.reduceMul, Int.reduceNeg, Int.reduceToNat, Int.reduceEq, Int.reduceNe, Int.reduceTDiv, Int.reduceTMod, implies_true, putL, appN, appX, appC, Eng.Fi, reduceCtorEq, exists_eq_left', exists_eq_left, if_true, if_false, List.replicate, Nat.reduceAdd, Nat.reduceSub, Nat.reduceMul, Nat.reduceLeDiff, Nat.reduceLT, Nat.reduceEqDiff]
  refine Cor.lp (addC_good g106 (noC_good _)) (noHx_good _) hm (S46 l gap at') (fun n => n ≤ l.length ∧ l.any (near gap at') = (l.drop n).any (near gap at')) (fun n => l.length - n) (a := 0) ⟨Nat.zero_le _, by simp⟩ (Wkn.keep [0, 1, 2, 6, 7] rfl) ?_
  intro f n ⟨hn, ht⟩ go
  rcases Nat.lt_or_ge n l.length with h | h
  · have e1 : decide ((n : Int) < (l.length : Int)) = true := by simp; omega
    have e2 : (l.map eG)[n]? = some (eG l[n]) := by simp [h]
    have e3 : IntKind.wrap .i64 ((n : Int) + 1) = ((n + 1 : Nat) : Int) := by rw [wrap64 (by omega) (by omega)]; rfl
    have hb := hg l[n] (by simp)
    rw [List.drop_eq_getElem_cons h, List.any_cons] at ht
    generalize l[n] = g at *
    have e4 : IntKind.wrap .i64 (g.at' - at') = g.at' - at' := wrap64 (by omega) (by omega)
    have e5 : (-1000000000000 ≤ g.at' - at' ∧ g.at' - at' ≤ 1000000000000) = True := by simp only [eq_iff_iff, iff_true]; omega
    by_cases hc : max (g.at' - at') (-(g.at' - at')) ≤ gap
    · have hr : isBl l gap at' = false := by simp only [isBl, ht, near, hc, decide_true, Bool.true_or, Bool.not_true]
      simp +contextual -implicitDefEqProofs (maxSteps := 2000000) only [S46, e1, e2, e3, e4, e5, x106, hc, List.length_map, hr, ruB, rh_no, Int.reduceLT, Int.reduceLE, Int.reduceAdd, Int.reduceSub, Int.reduceMul, Int.reduceNeg, Int.reduceToNat, Int.reduceEq, Int.reduceNe, Int.reduceTDiv, Int.reduceTMod, implies_true, putL, appN, appX, appC, Eng.Fi, reduceCtorEq, exists_eq_left', exists_eq_left, if_true, if_false, List.replicate, Nat.reduceAdd, Nat.reduceSub, Nat.reduceMul, Nat.reduceLeDiff, Nat.reduceLT, Nat.reduceEqDiff]
    · rw [show near gap at' g = false by simp only [near, hc, decide_false], Bool.false_or] at ht
      simp +contextual -implicitDefEqProofs (maxSteps := 2000000) only [S46, e1, e2, e3, e4, e5, x106, hc, List.length_map, ruB, rh_no, Int.reduceLT, Int.reduceLE, Int.reduceAdd, Int.reduceSub, Int.reduceMul, Int.reduceNeg, Int.reduceToNat, Int.reduceEq, Int.reduceNe, Int.reduceTDiv, Int.reduceTMod, implies_true, putL, appN, appX, appC, Eng.Fi, reduceCtorEq, exists_eq_left', exists_eq_left, if_true, if_false, List.replicate, Nat.reduceAdd, Nat.reduceSub, Nat.reduceMul, Nat.reduceLeDiff, Nat.reduceLT, Nat.reduceEqDiff]
      exact go _ (n + 1) ⟨h, ht⟩ (by omega) (Wkn.keep [0, 1, 2, 6, 7] rfl)
  · have e1 : decide ((n : Int) < (l.length : Int)) = false := by simp; omega
    rw [List.drop_eq_nil_of_le h] at ht
    have hr : isBl l gap at' = true := by simp only [isBl, ht, List.any_nil, Bool.not_false]
    simp +contextual -implicitDefEqProofs (maxSteps := 2000000) only [S46, e1, List.length_map, hr, ruB, rh_no, Int.reduceLT, Int.reduceLE, Int.reduceAdd, Int.reduceSub, Int.reduceMul, Int.reduceNeg, Int.reduceToNat, Int.reduceEq, Int.reduceNe, Int.reduceTDiv, Int.reduceTMod, implies_true, putL, appN, appX, appC, Eng.Fi, reduceCtorEq, exists_eq_left', exists_eq_left, if_true, if_false, List.replicate, Nat.reduceAdd, Nat.reduceSub, Nat.reduceMul, Nat.reduceLeDiff, Nat.reduceLT, Nat.reduceEqDiff]
end Sh
