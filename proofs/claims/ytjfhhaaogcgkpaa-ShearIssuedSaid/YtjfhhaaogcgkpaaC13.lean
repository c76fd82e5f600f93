import Derived.Test.YtjfhhaaogcgkpaaEngS9
import Derived.Test.YtjfhhaaogcgkpaaC12
open Go Go.Proofs Eng
set_option maxRecDepth 100000
set_option linter.unusedSimpArgs false
set_option linter.unusedVariables false
def a21 : AC := .seq (.ops false [] [⟨some 2, .p (.mov), [.c (.bool false)], none⟩]) (.seq (.ops false [] [⟨some 3, .p (.mov), [.t 0], none⟩, ⟨some 4, .p (.lenS), [.t 3], none⟩, ⟨some 5, .p (.binI .leq), [.t 4, .c (.int .i64 42)], none⟩, ⟨some 2, .p (.mov), [.t 5], none⟩]) (.ret))
theorem c21 : FnC Try.prog 21 6 a21 [.tmp 2] := ⟨Try.call21, _, _, Try.func21, rfl, by kernel_rfl, by kernel_rfl, rfl⟩
def a23 : AC := .seq (.ops false [] [⟨some 2, .p (.mov), [.c (.nilslice)], none⟩]) (.seq (.ops false [] [⟨some 3, .bsl 66 3, [], none⟩, ⟨some 4, .p (.mov), [.t 0], none⟩, ⟨some 5, .app 66 3 24, [.t 3, .t 4], none⟩, ⟨some 2, .p (.mov), [.t 5], none⟩]) (.ret))
theorem c23 : FnC Try.prog 23 6 a23 [.tmp 2] := ⟨Try.call23, _, _, Try.func23, rfl, by kernel_rfl, by kernel_rfl, rfl⟩
def a27 : AC := .seq (.ops false [] [⟨some 1, .box 40 4 1 true, [.t 0], none⟩, ⟨some 2, .p (.mov), [.c (.int .i64 0)], none⟩]) (.seq (.seq (.ops false [] [⟨some 3, .p (.faddr 0), [.t 1], none⟩, ⟨some 4, .load 1 false, [.t 3], none⟩, ⟨some 5, .call 33, [.t 4, .c (.int .i64 1), .c (.int .i64 20000)], none⟩, ⟨some 6, .p (.notB), [.t 5], none⟩, ⟨some 7, .p (.mov), [.t 6], none⟩, ⟨some 8, .p (.faddr 1), [.t 1], some (7, false)⟩, ⟨some 9, .load 1 false, [.t 8], some (7, false)⟩, ⟨some 10, .call 33, [.t 9, .c (.int .i64 0), .c (.int .i64 20000)], some (7, false)⟩, ⟨some 11, .p (.notB), [.t 10], some (7, false)⟩, ⟨some 12, .p (.pick), [.t 7, .c (.bool true), .t 11], none⟩, ⟨some 13, .p (.mov), [.t 12], none⟩, ⟨some 14, .p (.faddr 2), [.t 1], some (13, false)⟩, ⟨some 15, .load 1 false, [.t 14], some (13, false)⟩, ⟨some 16, .call 33, [.t 15, .c (.int .i64 0), .c (.int .i64 100000)], some (13, false)⟩, ⟨some 17, .p (.notB), [.t 16], some (13, false)⟩, ⟨some 18, .p (.pick), [.t 13, .c (.bool true), .t 17], none⟩, ⟨some 19, .p (.mov), [.t 18], none⟩, ⟨some 20, .p (.faddr 3), [.t 1], some (19, false)⟩, ⟨some 21, .load 1 false, [.t 20], some (19, false)⟩, ⟨some 22, .call 33, [.t 21, .c (.int .i64 1), .c (.int .i64 100000)], some (19, false)⟩, ⟨some 23, .p (.notB), [.t 22], some (19, false)⟩, ⟨some 24, .p (.pick), [.t 19, .c (.bool true), .t 23], none⟩]) (.cond (.t 24) (.seq (.ops false [] [⟨some 2, .p (.mov), [.c (.int .i64 2)], none⟩]) (.ret)) (.skip))) (.seq (.seq (.ops false [] [⟨some 25, .p (.faddr 1), [.t 1], none⟩, ⟨some 26, .load 1 false, [.t 25], none⟩, ⟨some 27, .p (.faddr 0), [.t 1], none⟩, ⟨some 28, .load 1 false, [.t 27], none⟩, ⟨some 29, .p (.binI .gtr), [.t 26, .t 28], none⟩]) (.cond (.t 29) (.seq (.ops false [] [⟨some 2, .p (.mov), [.c (.int .i64 9)], none⟩]) (.ret)) (.skip))) (.seq (.ops false [] [⟨some 2, .p (.mov), [.c (.int .i64 0)], none⟩]) (.ret))))
theorem c27 : FnC Try.prog 27 30 a27 [.tmp 2] := ⟨Try.call27, _, _, Try.func27, rfl, by kernel_rfl, by kernel_rfl, rfl⟩
def a30 : AC := .seq (.ops false [] [⟨some 2, .p (.mov), [.c (.bool false)], none⟩]) (.seq (.ops false [] [⟨some 3, .p (.mov), [.t 0], none⟩, ⟨some 4, .call 33, [.t 3, .c (.int .i64 0), .c (.int .i64 1000000000000)], none⟩, ⟨some 2, .p (.mov), [.t 4], none⟩]) (.ret))
theorem c30 : FnC Try.prog 30 5 a30 [.tmp 2] := ⟨Try.call30, _, _, Try.func30, rfl, by kernel_rfl, by kernel_rfl, rfl⟩
def a51 : AC := .seq (.ops false [] [⟨some 1, .box 66 3 1 true, [.t 0], none⟩, ⟨some 2, .p (.mov), [.c (.int .i64 0)], none⟩]) (.seq (.seq (.ops false [] [⟨some 3, .p (.faddr 0), [.t 1], none⟩, ⟨some 4, .load 1 false, [.t 3], none⟩, ⟨some 5, .call 30, [.t 4], none⟩, ⟨some 6, .p (.notB), [.t 5], none⟩, ⟨some 7, .p (.mov), [.t 6], none⟩, ⟨some 8, .p (.faddr 1), [.t 1], some (7, false)⟩, ⟨some 9, .p (.faddr 0), [.t 8], some (7, false)⟩, ⟨some 10, .load 1 false, [.t 9], some (7, false)⟩, ⟨some 11, .call 109, [.t 10], some (7, false)⟩, ⟨some 12, .p (.notB), [.t 11], some (7, false)⟩, ⟨some 13, .p (.pick), [.t 7, .c (.bool true), .t 12], none⟩, ⟨some 14, .p (.mov), [.t 13], none⟩, ⟨some 15, .p (.faddr 1), [.t 1], some (14, false)⟩, ⟨some 16, .p (.faddr 1), [.t 15], some (14, false)⟩, ⟨some 17, .load 1 false, [.t 16], some (14, false)⟩, ⟨some 18, .call 109, [.t 17], some (14, false)⟩, ⟨some 19, .p (.notB), [.t 18], some (14, false)⟩, ⟨some 20, .p (.pick), [.t 14, .c (.bool true), .t 19], none⟩]) (.cond (.t 20) (.seq (.ops false [] [⟨some 2, .p (.mov), [.c (.int .i64 2)], none⟩]) (.ret)) (.skip))) (.seq (.seq (.ops false [] [⟨some 21, .p (.faddr 1), [.t 1], none⟩, ⟨some 22, .p (.faddr 0), [.t 21], none⟩, ⟨some 23, .load 1 false, [.t 22], none⟩, ⟨some 24, .p (.faddr 1), [.t 1], none⟩, ⟨some 25, .p (.faddr 1), [.t 24], none⟩, ⟨some 26, .load 1 false, [.t 25], none⟩, ⟨some 27, .p (.binI .gtr), [.t 23, .t 26], none⟩]) (.cond (.t 27) (.seq (.ops false [] [⟨some 2, .p (.mov), [.c (.int .i64 9)], none⟩]) (.ret)) (.skip))) (.seq (.ops false [] [⟨some 2, .p (.mov), [.c (.int .i64 0)], none⟩]) (.ret))))
theorem c51 : FnC Try.prog 51 28 a51 [.tmp 2] := ⟨Try.call51, _, _, Try.func51, rfl, by kernel_rfl, by kernel_rfl, rfl⟩
def a95 : AC := .seq (.ops false [] [⟨some 0, .alloc 47 5 [.agg [.bool false, .int .i64 0, .int .i64 0, .int .i64 0, .int .i64 0]], [], none⟩]) (.seq (.ops false [] [⟨some 1, .p (.build [.bool false, .int .i64 0, .int .i64 0, .int .i64 0, .int .i64 0] [(3, 1), (4, 1)]), [.c (.int .i64 (-1)), .c (.int .i64 (-1))], none⟩, ⟨none, .store 5 true, [.t 0, .t 1], none⟩]) (.ret))
theorem c95 : FnC Try.prog 95 2 a95 [.cell 0 5 true] := ⟨Try.call95, _, _, Try.func95, rfl, by kernel_rfl, by kernel_rfl, rfl⟩
def a96 : AC := .seq (.ops false [] [⟨some 3, .box 40 4 1 true, [.t 0], none⟩, ⟨some 4, .box 47 5 1 true, [.t 1], none⟩, ⟨some 6, .alloc 47 5 [.agg [.bool false, .int .i64 0, .int .i64 0, .int .i64 0, .int .i64 0]], [], none⟩]) (.seq (.seq (.ops false [] [⟨some 7, .p (.faddr 0), [.t 4], none⟩, ⟨some 8, .load 1 false, [.t 7], none⟩, ⟨some 9, .p (.mov), [.t 8], none⟩, ⟨some 10, .p (.mov), [.t 2], some (9, true)⟩, ⟨some 11, .p (.faddr 3), [.t 4], some (9, true)⟩, ⟨some 12, .load 1 false, [.t 11], some (9, true)⟩, ⟨some 13, .p (.binI .sub), [.t 10, .t 12], some (9, true)⟩, ⟨some 14, .p (.faddr 3), [.t 3], some (9, true)⟩, ⟨some 15, .load 1 false, [.t 14], some (9, true)⟩, ⟨some 16, .p (.binI .gtr), [.t 13, .t 15], some (9, true)⟩, ⟨some 17, .p (.pick), [.t 9, .t 16, .c (.bool false)], none⟩]) (.cond (.t 17) (.seq (.ops false [] [⟨some 18, .load 5 true, [.t 4], none⟩, ⟨some 19, .call 110, [.t 18], none⟩, ⟨none, .store 5 true, [.t 6, .t 19], none⟩]) (.ret)) (.skip))) (.seq (.ops false [] [⟨some 20, .load 5 true, [.t 4], none⟩, ⟨none, .store 5 true, [.t 6, .t 20], none⟩]) (.ret)))
theorem c96 : FnC Try.prog 96 21 a96 [.cell 6 5 true] := ⟨Try.call96, _, _, Try.func96, rfl, by kernel_rfl, by kernel_rfl, rfl⟩
def a109 : AC := .seq (.ops false [] [⟨some 2, .p (.mov), [.c (.bool false)], none⟩]) (.seq (.ops false [] [⟨some 3, .p (.mov), [.t 0], none⟩, ⟨some 4, .call 33, [.t 3, .c (.int .i64 (-20000)), .c (.int .i64 20000)], none⟩, ⟨some 2, .p (.mov), [.t 4], none⟩]) (.ret))
theorem c109 : FnC Try.prog 109 5 a109 [.tmp 2] := ⟨Try.call109, _, _, Try.func109, rfl, by kernel_rfl, by kernel_rfl, rfl⟩
def a110 : AC := .seq (.ops false [] [⟨some 1, .box 47 5 1 true, [.t 0], none⟩, ⟨some 2, .alloc 47 5 [.agg [.bool false, .int .i64 0, .int .i64 0, .int .i64 0, .int .i64 0]], [], none⟩]) (.seq (.ops false [] [⟨some 3, .p (.faddr 1), [.t 1], none⟩, ⟨some 4, .load 1 false, [.t 3], none⟩, ⟨some 5, .p (.faddr 3), [.t 1], none⟩, ⟨some 6, .load 1 false, [.t 5], none⟩, ⟨some 7, .p (.build [.bool false, .int .i64 0, .int .i64 0, .int .i64 0, .int .i64 0] [(1, 1), (3, 1), (4, 1)]), [.t 4, .t 6, .c (.int .i64 (-1))], none⟩, ⟨none, .store 5 true, [.t 2, .t 7], none⟩]) (.ret))
theorem c110 : FnC Try.prog 110 8 a110 [.cell 2 5 true] := ⟨Try.call110, _, _, Try.func110, rfl, by kernel_rfl, by kernel_rfl, rfl⟩
namespace Sh

/-! the reference of alerts -/
theorem k21 (l : List Gt) : FOk P 21 [.vs (l.map eG)] (B (decide ((l.length : Int) ≤ 42))) := by
  refine c21.fok (by simp only [subs, sub1, free_G]) (Cor.run (noC_good _) (noHx_good _) hm ?_)
  simp +contextual -implicitDefEqProofs only [bg_eq, a21, List.length_map, ruB, rh_no, Int.reduceLT, Int.reduceLE, Int.reduceAdd, Int.reduceSub, Int.reduceMul, Int.reduceNeg, Int.reduceToNat, Int.reduceEq, Int.reduceNe, Int.reduceTDiv, Int.reduceTMod, implies_true, putL, appN, appX, Eng.Fi, reduceCtorEq, exists_eq_left', exists_eq_left, if_true, if_false, List.replicate, Nat.reduceAdd, Nat.reduceSub, Nat.reduceMul, Nat.reduceLeDiff, Nat.reduceLT, Nat.reduceEqDiff]
def c21f : List AV → Option AV
  | [.vs vals] => onL dG vals fun l => some (B (decide ((l.length : Int) ≤ 42)))
  | _ => none
theorem g21 : Fn P 21 c21f := fun args v h => by
  unfold c21f at h; split at h
  · obtain ⟨l, rfl, h2⟩ := onL_inv dG_inv h
    cases h2; exact k21 l
  · cases h
theorem x21 (l : List Gt) : c21f [.vs (l.map eG)] = some (.bool (decide ((l.length : Int) ≤ 42))) := by simp only [c21f, onL_map dG_e]

theorem k23 (l : List Gt) (hl : l.length ≤ 1000) : FOk P 23 [.vs (l.map eG)] (.vs (l.map eG)) := by
  have m1 : (l.length ≤ maxLen) = True := by simp only [eq_iff_iff, iff_true]; exact Nat.le_trans hl (by decide)
  have m2 : (l.length * 24 ≤ 140737488355328) = True := by simp only [eq_iff_iff, iff_true]; omega
  have m3 : (l.map eG).all (fun v => decide (v.cells.length = 3)) = true := by simp [List.all_map, AV.cells]
  refine c23.fok (by simp only [subs, sub1, free_G]) (Cor.run (noC_good _) (noHx_good _) hm ?_)
  simp +contextual -implicitDefEqProofs only [bg_eq, a23, List.length_map, m1, m2, m3, ruB, rh_no, Int.reduceLT, Int.reduceLE, Int.reduceAdd, Int.reduceSub, Int.reduceMul, Int.reduceNeg, Int.reduceToNat, Int.reduceEq, Int.reduceNe, Int.reduceTDiv, Int.reduceTMod, implies_true, putL, appN, appX, Eng.Fi, reduceCtorEq, exists_eq_left', exists_eq_left, if_true, if_false, List.replicate, Nat.reduceAdd, Nat.reduceSub, Nat.reduceMul, Nat.reduceLeDiff, Nat.reduceLT, Nat.reduceEqDiff]
  have t1 : (l.map eG).take l.length = l.map eG := by rw [List.take_of_length_le]; simp
  simp [free_G, t1]
def c23f : List AV → Option AV
  | [.vs vals] => onL dG vals fun l => if l.length ≤ 1000 then some (.vs (l.map eG)) else none
  | _ => none
theorem g23 : Fn P 23 c23f := fun args v h => by
  unfold c23f at h; split at h
  · obtain ⟨l, rfl, h2⟩ := onL_inv dG_inv h
    split at h2
    · rename_i hc; cases h2; exact k23 l  hc
    · cases h2
  · cases h
theorem x23 (l : List Gt) (h : (l.length ≤ 1000) = True) : c23f [.vs (l.map eG)] = some (.vs (l.map eG)) := by
  simp only [c23f, onL_map dG_e, h, if_true]

theorem k30 (n : Int) : FOk P 30 [I n] (B (decide (0 ≤ n ∧ n ≤ 1000000000000))) := by
  refine c30.fok rfl (Cor.run (addC_good g33 (noC_good _)) (noHx_good _) hm ?_)
  simp +contextual -implicitDefEqProofs only [bg_eq, a30, x33, ruB, rh_no, Int.reduceLT, Int.reduceLE, Int.reduceAdd, Int.reduceSub, Int.reduceMul, Int.reduceNeg, Int.reduceToNat, Int.reduceEq, Int.reduceNe, Int.reduceTDiv, Int.reduceTMod, implies_true, putL, appN, appX, Eng.Fi, reduceCtorEq, exists_eq_left', exists_eq_left, if_true, if_false, List.replicate, Nat.reduceAdd, Nat.reduceSub, Nat.reduceMul, Nat.reduceLeDiff, Nat.reduceLT, Nat.reduceEqDiff]
def c30f : List AV → Option AV
  | [.int .i64 n] => some (.bool (decide (0 ≤ n ∧ n ≤ 1000000000000)))
  | _ => none
theorem g30 : Fn P 30 c30f := fun args v h => by
  unfold c30f at h; split at h
  · cases h; exact k30 _
  · cases h
theorem x30 (n : Int) : c30f [.int .i64 n] = some (.bool (decide (0 ≤ n ∧ n ≤ 1000000000000))) := rfl
theorem k109 (n : Int) : FOk P 109 [I n] (B (decide (-20000 ≤ n ∧ n ≤ 20000))) := by
  refine c109.fok rfl (Cor.run (addC_good g33 (noC_good _)) (noHx_good _) hm ?_)
  simp +contextual -implicitDefEqProofs only [bg_eq, a109, x33, ruB, rh_no, Int.reduceLT, Int.reduceLE, Int.reduceAdd, Int.reduceSub, Int.reduceMul, Int.reduceNeg, Int.reduceToNat, Int.reduceEq, Int.reduceNe, Int.reduceTDiv, Int.reduceTMod, implies_true, putL, appN, appX, Eng.Fi, reduceCtorEq, exists_eq_left', exists_eq_left, if_true, if_false, List.replicate, Nat.reduceAdd, Nat.reduceSub, Nat.reduceMul, Nat.reduceLeDiff, Nat.reduceLT, Nat.reduceEqDiff]
def c109f : List AV → Option AV
  | [.int .i64 n] => some (.bool (decide (-20000 ≤ n ∧ n ≤ 20000)))
  | _ => none
theorem g109 : Fn P 109 c109f := fun args v h => by
  unfold c109f at h; split at h
  · cases h; exact k109 _
  · cases h
theorem x109 (n : Int) : c109f [.int .i64 n] = some (.bool (decide (-20000 ≤ n ∧ n ≤ 20000))) := rfl
theorem evE_val (e : Gt) : evE e = if (0 ≤ e.at' ∧ e.at' ≤ 1000000000000) ∧ ((-20000 ≤ e.lo ∧ e.lo ≤ 20000) ∧ (-20000 ≤ e.hi ∧ e.hi ≤ 20000)) then (if e.lo ≤ e.hi then 0 else 9) else 2 := by
  unfold evE unl
  split
  · split <;> simp [firstE]
  · split <;> simp [firstE]
theorem k51 (e : Gt) : FOk P 51 [eG e] (I (evE e)) := by
  refine c51.fok rfl (Cor.run (addC_good g109 (addC_good g30 (noC_good _))) (noHx_good _) hm ?_)
  simp +contextual -implicitDefEqProofs only [bg_eq, a51, x30, x109, ruB, rh_no, Int.reduceLT, Int.reduceLE, Int.reduceAdd, Int.reduceSub, Int.reduceMul, Int.reduceNeg, Int.reduceToNat, Int.reduceEq, Int.reduceNe, Int.reduceTDiv, Int.reduceTMod, implies_true, putL, appN, appX, Eng.Fi, reduceCtorEq, exists_eq_left', exists_eq_left, if_true, if_false, List.replicate, Nat.reduceAdd, Nat.reduceSub, Nat.reduceMul, Nat.reduceLeDiff, Nat.reduceLT, Nat.reduceEqDiff]
  refine ⟨fun h => ?_, fun h => ⟨fun h2 => ?_, fun h2 => ?_⟩⟩
  · rw [evE_val, if_neg (by omega)]
  · rw [evE_val, if_pos (by omega), if_neg (by omega)]
  · rw [evE_val, if_pos (by omega), if_pos (by omega)]
def c51f : List AV → Option AV
  | [.agg [.int .i64 a, .int .i64 b, .int .i64 c]] => some (I (evE ⟨a, b, c⟩))
  | _ => none
theorem g51 : Fn P 51 c51f := fun args v h => by
  unfold c51f at h; split at h
  · cases h; exact k51 ⟨_, _, _⟩
  · cases h
theorem x51 (e : Gt) : c51f [.agg [I e.at', I e.lo, I e.hi]] = some (.int .i64 (evE e)) := rfl
theorem rlE_val (r : Rl) : rlE r = if (((1 ≤ r.raise ∧ r.raise ≤ 20000) ∧ (0 ≤ r.clear ∧ r.clear ≤ 20000)) ∧ (0 ≤ r.hold ∧ r.hold ≤ 100000)) ∧ (1 ≤ r.tmo ∧ r.tmo ≤ 100000) then (if r.clear ≤ r.raise then 0 else 9) else 2 := by
  unfold rlE unl
  split
  · split <;> simp [firstE]
  · split <;> simp [firstE]
theorem k27 (r : Rl) : FOk P 27 [eR r] (I (rlE r)) := by
  refine c27.fok rfl (Cor.run (addC_good g33 (noC_good _)) (noHx_good _) hm ?_)
  simp +contextual -implicitDefEqProofs only [bg_eq, a27, x33, ruB, rh_no, Int.reduceLT, Int.reduceLE, Int.reduceAdd, Int.reduceSub, Int.reduceMul, Int.reduceNeg, Int.reduceToNat, Int.reduceEq, Int.reduceNe, Int.reduceTDiv, Int.reduceTMod, implies_true, putL, appN, appX, Eng.Fi, reduceCtorEq, exists_eq_left', exists_eq_left, if_true, if_false, List.replicate, Nat.reduceAdd, Nat.reduceSub, Nat.reduceMul, Nat.reduceLeDiff, Nat.reduceLT, Nat.reduceEqDiff]
  refine ⟨fun h => ?_, fun h => ⟨fun h2 => ?_, fun h2 => ?_⟩⟩
  · rw [rlE_val, if_neg (by omega)]
  · rw [rlE_val, if_pos (by omega), if_neg (by omega)]
  · rw [rlE_val, if_pos (by omega), if_pos (by omega)]
def c27f : List AV → Option AV
  | [.agg [.int .i64 a, .int .i64 b, .int .i64 c, .int .i64 d]] => some (I (rlE ⟨a, b, c, d⟩))
  | _ => none
theorem g27 : Fn P 27 c27f := fun args v h => by
  unfold c27f at h; split at h
  · cases h; exact k27 ⟨_, _, _, _⟩
  · cases h
theorem x27 (r : Rl) : c27f [.agg [I r.raise, I r.clear, I r.hold, I r.tmo]] = some (.int .i64 (rlE r)) := rfl

theorem k95 : FOk P 95 [] (.agg [B false, I 0, I 0, I (-1), I (-1)]) := by
  refine c95.fok rfl (Cor.run (noC_good _) (noHx_good _) hm ?_)
  simp +contextual -implicitDefEqProofs only [bg_eq, a95, ruB, rh_no, Int.reduceLT, Int.reduceLE, Int.reduceAdd, Int.reduceSub, Int.reduceMul, Int.reduceNeg, Int.reduceToNat, Int.reduceEq, Int.reduceNe, Int.reduceTDiv, Int.reduceTMod, implies_true, putL, appN, appX, Eng.Fi, reduceCtorEq, exists_eq_left', exists_eq_left, if_true, if_false, List.replicate, Nat.reduceAdd, Nat.reduceSub, Nat.reduceMul, Nat.reduceLeDiff, Nat.reduceLT, Nat.reduceEqDiff]
def c95f : List AV → Option AV
  | [] => some (.agg [B false, I 0, I 0, I (-1), I (-1)])
  | _ => none
theorem g95 : Fn P 95 c95f := fun args v h => by
  unfold c95f at h; split at h
  · cases h; exact k95
  · cases h
theorem x95 : c95f [] = some (.agg [B false, I 0, I 0, I (-1), I (-1)]) := rfl
theorem k110 (s : St) : FOk P 110 [eS s] (eS (endS s)) := by
  refine c110.fok rfl (Cor.run (noC_good _) (noHx_good _) hm ?_)
  simp +contextual -implicitDefEqProofs only [bg_eq, a110, endS, ruB, rh_no, Int.reduceLT, Int.reduceLE, Int.reduceAdd, Int.reduceSub, Int.reduceMul, Int.reduceNeg, Int.reduceToNat, Int.reduceEq, Int.reduceNe, Int.reduceTDiv, Int.reduceTMod, implies_true, putL, appN, appX, Eng.Fi, reduceCtorEq, exists_eq_left', exists_eq_left, if_true, if_false, List.replicate, Nat.reduceAdd, Nat.reduceSub, Nat.reduceMul, Nat.reduceLeDiff, Nat.reduceLT, Nat.reduceEqDiff]
def c110f : List AV → Option AV
  | [.agg [.bool u, .int .i64 a, .int .i64 b, .int .i64 c, .int .i64 d]] => some (eS (endS ⟨u, a, b, c, d⟩))
  | _ => none
theorem g110 : Fn P 110 c110f := fun args v h => by
  unfold c110f at h; split at h
  · cases h; exact k110 ⟨_, _, _, _, _⟩
  · cases h
theorem x110 (u : Bool) (a b c d : Int) : c110f [.agg [.bool u, .int .i64 a, .int .i64 b, .int .i64 c, .int .i64 d]] = some (.agg [.bool false, .int .i64 a, .int .i64 0, .int .i64 c, .int .i64 (-1)]) := rfl
theorem k96 (r : Rl) (s : St) (t : Int) (h1 : sm t) (h2 : sm s.heard) : FOk P 96 [eR r, eS s, I t] (eS (expS r s t)) := by
  obtain ⟨u, n, si, he, q⟩ := s
  simp only at h2
  have e1 : IntKind.wrap .i64 (t - he) = t - he := wrap64 (by omega) (by omega)
  refine c96.fok rfl (Cor.run (addC_good g110 (noC_good _)) (noHx_good _) hm ?_)
  cases u
  · simp +contextual -implicitDefEqProofs only [bg_eq, a96, expS, x110, e1, ruB, rh_no, Int.reduceLT, Int.reduceLE, Int.reduceAdd, Int.reduceSub, Int.reduceMul, Int.reduceNeg, Int.reduceToNat, Int.reduceEq, Int.reduceNe, Int.reduceTDiv, Int.reduceTMod, implies_true, putL, appN, appX, Eng.Fi, reduceCtorEq, exists_eq_left', exists_eq_left, if_true, if_false, List.replicate, Nat.reduceAdd, Nat.reduceSub, Nat.reduceMul, Nat.reduceLeDiff, Nat.reduceLT, Nat.reduceEqDiff]
  · simp +contextual -implicitDefEqProofs only [bg_eq, a96, expS, x110, e1, endS, ruB, rh_no, Int.reduceLT, Int.reduceLE, Int.reduceAdd, Int.reduceSub, Int.reduceMul, Int.reduceNeg, Int.reduceToNat, Int.reduceEq, Int.reduceNe, Int.reduceTDiv, Int.reduceTMod, implies_true, putL, appN, appX, Eng.Fi, reduceCtorEq, exists_eq_left', exists_eq_left, if_true, if_false, List.replicate, Nat.reduceAdd, Nat.reduceSub, Nat.reduceMul, Nat.reduceLeDiff, Nat.reduceLT, Nat.reduceEqDiff]
def c96f : List AV → Option AV
  | [.agg [.int .i64 ra, .int .i64 rb, .int .i64 rc, .int .i64 rd], .agg [.bool u, .int .i64 a, .int .i64 b, .int .i64 c, .int .i64 d], .int .i64 t] => if sm t ∧ sm c then some (eS (expS ⟨ra, rb, rc, rd⟩ ⟨u, a, b, c, d⟩ t)) else none
  | _ => none
theorem g96 : Fn P 96 c96f := fun args v h => by
  unfold c96f at h; split at h
  · split at h
    · rename_i hc; cases h; exact k96 ⟨_, _, _, _⟩ ⟨_, _, _, _, _⟩ _ hc.1 hc.2
    · cases h
  · cases h
theorem x96 (r : Rl) (s : St) (t : Int) (h : (sm t ∧ sm s.heard) = True) : c96f [.agg [I r.raise, I r.clear, I r.hold, I r.tmo], .agg [B s.up, I s.num, I s.since, I s.heard, I s.quiet], .int .i64 t] = some (eS (expS r s t)) := by
  simp only [c96f, h, if_true]
end Sh
