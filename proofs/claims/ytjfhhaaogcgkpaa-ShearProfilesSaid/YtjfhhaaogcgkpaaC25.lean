import Derived.Test.YtjfhhaaogcgkpaaEngS9
import Derived.Test.YtjfhhaaogcgkpaaC24
open Go Go.Proofs Eng
set_option maxRecDepth 100000
set_option linter.unusedSimpArgs false
set_option linter.unusedVariables false
def a41 : AC := .seq (.ops false [] [⟨some 2, .p (.mov), [.c (.int .i64 0)], none⟩]) (.seq (.ops false [] [⟨some 6, .p (.mov), [.t 0], none⟩, ⟨some 7, .call 66, [.t 6], none⟩, ⟨some 5, .p (.mov), [.t 7], none⟩, ⟨some 8, .p (.ext 0), [.t 5], none⟩, ⟨some 9, .p (.ext 1), [.t 5], none⟩, ⟨some 3, .p (.mov), [.t 8], none⟩, ⟨some 4, .p (.mov), [.t 9], none⟩]) (.seq (.ops false [] [⟨some 10, .p (.mov), [.t 4], none⟩, ⟨some 2, .p (.mov), [.t 10], none⟩]) (.ret)))
theorem c41 : FnC Try.prog 41 11 a41 [.tmp 2] := ⟨Try.call41, _, _, Try.func41, rfl, by kernel_rfl, by kernel_rfl, rfl⟩
def a44 : AC := .seq (.ops false [] [⟨some 4, .box 64 2 1 true, [.t 1], none⟩, ⟨some 6, .p (.mov), [.c (.nilslice)], none⟩]) (.seq (.ops false [] [⟨some 7, .p (.mov), [.c (.nilslice)], none⟩]) (.seq (.seq (.ops false [] [⟨some 10, .p (.faddr 0), [.t 4], none⟩, ⟨some 11, .load 1 false, [.t 10], none⟩, ⟨some 8, .p (.mov), [.t 11], none⟩]) (.block 0 (.loop (.seq (.seq (.ops false [] [⟨some 12, .p (.mov), [.t 8], none⟩, ⟨some 13, .p (.faddr 1), [.t 4], none⟩, ⟨some 14, .load 1 false, [.t 13], none⟩, ⟨some 15, .p (.binI .leq), [.t 12, .t 14], none⟩]) (.cond (.t 15) (.skip) (.exit 0))) (.seq (.block 1 (.seq (.seq (.ops false [] [⟨some 18, .p (.mov), [.t 0], none⟩, ⟨some 19, .p (.mov), [.t 2], none⟩, ⟨some 20, .p (.mov), [.t 8], none⟩, ⟨some 21, .call 46, [.t 18, .t 19, .t 20], none⟩, ⟨some 22, .p (.notB), [.t 21], none⟩]) (.cond (.t 22) (.exit 1) (.skip))) (.seq (.ops false [] [⟨some 23, .p (.mov), [.t 7], none⟩, ⟨some 24, .p (.lenS), [.t 23], none⟩, ⟨some 9, .p (.mov), [.t 24], none⟩]) (.seq (.ops false [] [⟨some 25, .p (.mov), [.t 9], none⟩, ⟨some 26, .p (.binI .gtr), [.t 25, .c (.int .i64 0)], none⟩, ⟨some 27, .p (.mov), [.t 26], none⟩, ⟨some 28, .p (.mov), [.t 7], some (27, true)⟩, ⟨some 29, .p (.mov), [.t 9], some (27, true)⟩, ⟨some 30, .p (.binI .sub), [.t 29, .c (.int .i64 1)], some (27, true)⟩, ⟨some 31, .p (.iaddrS 2), [.t 28, .t 30], some (27, true)⟩, ⟨some 32, .p (.faddr 1), [.t 31], some (27, true)⟩, ⟨some 33, .load 1 false, [.t 32], some (27, true)⟩, ⟨some 34, .p (.mov), [.t 8], some (27, true)⟩, ⟨some 35, .p (.binI .sub), [.t 34, .c (.int .i64 1)], some (27, true)⟩, ⟨some 36, .p (.binI .eql), [.t 33, .t 35], some (27, true)⟩, ⟨some 37, .p (.pick), [.t 27, .t 36, .c (.bool false)], none⟩]) (.cond (.t 37) (.ops false [] [⟨some 38, .p (.mov), [.t 7], none⟩, ⟨some 39, .p (.mov), [.t 9], none⟩, ⟨some 40, .p (.binI .sub), [.t 39, .c (.int .i64 1)], none⟩, ⟨some 41, .p (.mov), [.t 8], none⟩, ⟨some 42, .p (.iaddrS 2), [.t 38, .t 40], none⟩, ⟨some 43, .p (.faddr 1), [.t 42], none⟩, ⟨none, .store 1 false, [.t 43, .t 41], none⟩]) (.ops false [] [⟨some 44, .p (.mov), [.t 7], none⟩, ⟨some 45, .p (.mov), [.t 8], none⟩, ⟨some 46, .p (.mov), [.t 8], none⟩, ⟨some 47, .p (.build [.int .i64 0, .int .i64 0] [(0, 1), (1, 1)]), [.t 45, .t 46], none⟩, ⟨some 48, .fbs 2, [.t 47], none⟩, ⟨some 49, .app 64 2 16, [.t 44, .t 48], none⟩, ⟨some 7, .p (.mov), [.t 49], none⟩])))))) (.ops false [] [⟨some 16, .p (.mov), [.t 8], none⟩, ⟨some 17, .p (.binI .add), [.t 16, .c (.int .i64 1)], none⟩, ⟨some 8, .p (.mov), [.t 17], none⟩])))))) (.seq (.ops false [] [⟨some 50, .p (.mov), [.t 7], none⟩, ⟨some 6, .p (.mov), [.t 50], none⟩]) (.ret))))
theorem c44 : FnC Try.prog 44 51 a44 [.tmp 6] := ⟨Try.call44, _, _, Try.func44, rfl, by kernel_rfl, by kernel_rfl, rfl⟩
def a45 : AC := .seq (.ops false [] [⟨some 4, .p (.mov), [.c (.bool false)], none⟩]) (.seq (.seq (.ops false [] [⟨some 5, .p (.mov), [.c (.int .i64 0)], none⟩]) (.block 0 (.loop (.seq (.seq (.ops false [] [⟨some 6, .p (.mov), [.t 5], none⟩, ⟨some 7, .p (.mov), [.t 0], none⟩, ⟨some 8, .p (.lenS), [.t 7], none⟩, ⟨some 9, .p (.binI .lss), [.t 6, .t 8], none⟩]) (.cond (.t 9) (.skip) (.exit 0))) (.seq (.block 1 (.seq (.ops true [] [⟨some 12, .p (.mov), [.t 1], none⟩, ⟨some 13, .p (.mov), [.t 0], none⟩, ⟨some 14, .p (.mov), [.t 5], none⟩, ⟨some 15, .p (.iaddrS 2), [.t 13, .t 14], none⟩, ⟨some 16, .p (.faddr 0), [.t 15], none⟩, ⟨some 17, .load 1 false, [.t 16], none⟩, ⟨some 18, .p (.mov), [.t 0], none⟩, ⟨some 19, .p (.mov), [.t 5], none⟩, ⟨some 20, .p (.iaddrS 2), [.t 18, .t 19], none⟩, ⟨some 21, .p (.faddr 1), [.t 20], none⟩, ⟨some 22, .load 1 false, [.t 21], none⟩, ⟨some 23, .call 33, [.t 12, .t 17, .t 22], none⟩]) (.cond (.t 23) (.seq (.ops false [] [⟨some 4, .p (.mov), [.c (.bool true)], none⟩]) (.ret)) (.skip)))) (.ops false [] [⟨some 10, .p (.mov), [.t 5], none⟩, ⟨some 11, .p (.binI .add), [.t 10, .c (.int .i64 1)], none⟩, ⟨some 5, .p (.mov), [.t 11], none⟩])))))) (.seq (.ops false [] [⟨some 4, .p (.mov), [.c (.bool false)], none⟩]) (.ret)))
theorem c45 : FnC Try.prog 45 24 a45 [.tmp 4] := ⟨Try.call45, _, _, Try.func45, rfl, by kernel_rfl, by kernel_rfl, rfl⟩
def a66 : AC := .seq (.ops false [] [⟨some 2, .p (.mov), [.c (.int .i64 0)], none⟩, ⟨some 3, .p (.mov), [.c (.int .i64 0)], none⟩]) (.seq (.seq (.ops false [] [⟨some 5, .p (.mov), [.t 0], none⟩, ⟨some 6, .p (.lenS), [.t 5], none⟩, ⟨some 7, .p (.binI .gtr), [.t 6, .c (.int .i64 20)], none⟩]) (.cond (.t 7) (.seq (.ops false [] [⟨some 2, .p (.mov), [.c (.int .i64 0)], none⟩, ⟨some 3, .p (.mov), [.c (.int .i64 8)], none⟩]) (.ret)) (.skip))) (.seq (.seq (.ops false [] [⟨some 4, .p (.mov), [.c (.int .i64 0)], none⟩]) (.block 0 (.loop (.seq (.seq (.ops false [] [⟨some 8, .p (.mov), [.t 4], none⟩, ⟨some 9, .p (.mov), [.t 0], none⟩, ⟨some 10, .p (.lenS), [.t 9], none⟩, ⟨some 11, .p (.binI .lss), [.t 8, .t 10], none⟩]) (.cond (.t 11) (.skip) (.exit 0))) (.seq (.block 1 (.seq (.seq (.ops false [] [⟨some 14, .p (.mov), [.t 0], none⟩, ⟨some 15, .p (.mov), [.t 4], none⟩, ⟨some 16, .p (.iaddrS 3), [.t 14, .t 15], none⟩, ⟨some 17, .p (.faddr 0), [.t 16], none⟩, ⟨some 18, .load 1 false, [.t 17], none⟩, ⟨some 19, .call 42, [.t 18], none⟩, ⟨some 20, .p (.binI .neq), [.t 19, .c (.int .i64 0)], none⟩, ⟨some 21, .p (.mov), [.t 20], none⟩, ⟨some 22, .p (.mov), [.t 0], some (21, false)⟩, ⟨some 23, .p (.mov), [.t 4], some (21, false)⟩, ⟨some 24, .p (.iaddrS 3), [.t 22, .t 23], some (21, false)⟩, ⟨some 25, .p (.faddr 1), [.t 24], some (21, false)⟩, ⟨some 26, .p (.faddr 0), [.t 25], some (21, false)⟩, ⟨some 27, .load 1 false, [.t 26], some (21, false)⟩, ⟨some 28, .call 115, [.t 27], some (21, false)⟩, ⟨some 29, .p (.notB), [.t 28], some (21, false)⟩, ⟨some 30, .p (.pick), [.t 21, .c (.bool true), .t 29], none⟩, ⟨some 31, .p (.mov), [.t 30], none⟩, ⟨some 32, .p (.mov), [.t 0], some (31, false)⟩, ⟨some 33, .p (.mov), [.t 4], some (31, false)⟩, ⟨some 34, .p (.iaddrS 3), [.t 32, .t 33], some (31, false)⟩, ⟨some 35, .p (.faddr 1), [.t 34], some (31, false)⟩, ⟨some 36, .p (.faddr 1), [.t 35], some (31, false)⟩, ⟨some 37, .load 1 false, [.t 36], some (31, false)⟩, ⟨some 38, .call 115, [.t 37], some (31, false)⟩, ⟨some 39, .p (.notB), [.t 38], some (31, false)⟩, ⟨some 40, .p (.pick), [.t 31, .c (.bool true), .t 39], none⟩]) (.cond (.t 40) (.seq (.ops false [] [⟨some 41, .p (.mov), [.t 4], none⟩, ⟨some 2, .p (.mov), [.t 41], none⟩, ⟨some 3, .p (.mov), [.c (.int .i64 2)], none⟩]) (.ret)) (.skip))) (.seq (.ops true [] [⟨some 42, .p (.mov), [.t 0], none⟩, ⟨some 43, .p (.mov), [.t 4], none⟩, ⟨some 44, .p (.iaddrS 3), [.t 42, .t 43], none⟩, ⟨some 45, .p (.faddr 1), [.t 44], none⟩, ⟨some 46, .p (.faddr 0), [.t 45], none⟩, ⟨some 47, .load 1 false, [.t 46], none⟩, ⟨some 48, .p (.mov), [.t 0], none⟩, ⟨some 49, .p (.mov), [.t 4], none⟩, ⟨some 50, .p (.iaddrS 3), [.t 48, .t 49], none⟩, ⟨some 51, .p (.faddr 1), [.t 50], none⟩, ⟨some 52, .p (.faddr 1), [.t 51], none⟩, ⟨some 53, .load 1 false, [.t 52], none⟩, ⟨some 54, .p (.binI .gtr), [.t 47, .t 53], none⟩, ⟨some 55, .p (.mov), [.t 54], none⟩, ⟨some 56, .p (.mov), [.t 4], some (55, false)⟩, ⟨some 57, .p (.binI .gtr), [.t 56, .c (.int .i64 0)], some (55, false)⟩, ⟨some 58, .p (.mov), [.t 57], some (55, false)⟩, ⟨some 59, .p (.mov), [.t 0], some (58, true)⟩, ⟨some 60, .p (.mov), [.t 4], some (58, true)⟩, ⟨some 61, .p (.iaddrS 3), [.t 59, .t 60], some (58, true)⟩, ⟨some 62, .p (.faddr 0), [.t 61], some (58, true)⟩, ⟨some 63, .load 1 false, [.t 62], some (58, true)⟩, ⟨some 64, .p (.mov), [.t 0], some (58, true)⟩, ⟨some 65, .p (.mov), [.t 4], some (58, true)⟩, ⟨some 66, .p (.binI .sub), [.t 65, .c (.int .i64 1)], some (58, true)⟩, ⟨some 67, .p (.iaddrS 3), [.t 64, .t 66], some (58, true)⟩, ⟨some 68, .p (.faddr 0), [.t 67], some (58, true)⟩, ⟨some 69, .load 1 false, [.t 68], some (58, true)⟩, ⟨some 70, .p (.binI .leq), [.t 63, .t 69], some (58, true)⟩, ⟨some 71, .p (.pick), [.t 58, .t 70, .c (.bool false)], some (55, false)⟩, ⟨some 72, .p (.pick), [.t 55, .c (.bool true), .t 71], none⟩]) (.cond (.t 72) (.seq (.ops false [] [⟨some 73, .p (.mov), [.t 4], none⟩, ⟨some 2, .p (.mov), [.t 73], none⟩, ⟨some 3, .p (.mov), [.c (.int .i64 9)], none⟩]) (.ret)) (.skip))))) (.ops false [] [⟨some 12, .p (.mov), [.t 4], none⟩, ⟨some 13, .p (.binI .add), [.t 12, .c (.int .i64 1)], none⟩, ⟨some 4, .p (.mov), [.t 13], none⟩])))))) (.seq (.ops false [] [⟨some 2, .p (.mov), [.c (.int .i64 0)], none⟩, ⟨some 3, .p (.mov), [.c (.int .i64 0)], none⟩]) (.ret))))
theorem c66 : FnC Try.prog 66 74 a66 [.tmp 2, .tmp 3] := ⟨Try.call66, _, _, Try.func66, rfl, by kernel_rfl, by kernel_rfl, rfl⟩
namespace Sh

/-! CheckProfile of the reference -/
def S66 (l : List Gt) (n : Nat) : AState := ⟨[.vs (l.map eG), .any, I 0, I 0, I n, .any, .any, .any, .any, .any, .any, .any, .any, .any, .any, .any, .any, .any, .any, .any, .any, .any, .any, .any, .any, .any, .any, .any, .any, .any, .any, .any, .any, .any, .any, .any, .any, .any, .any, .any, .any, .any, .any, .any, .any, .any, .any, .any, .any, .any, .any, .any, .any, .any, .any, .any, .any, .any, .any, .any, .any, .any, .any, .any, .any, .any, .any, .any, .any, .any, .any, .any, .any, .any], [], 0⟩
theorem gErr_val (last : Int) (g : Gt) : gErr last g = if (0 ≤ g.at' ∧ g.at' ≤ 50000) ∧ (-10000 ≤ g.lo ∧ g.lo ≤ 10000) ∧ (-10000 ≤ g.hi ∧ g.hi ≤ 10000) then (if g.lo ≤ g.hi ∧ last < g.at' then 0 else 9) else 2 := by
  unfold gErr
  by_cases h : (0 ≤ g.at' ∧ g.at' ≤ 50000) ∧ (-10000 ≤ g.lo ∧ g.lo ≤ 10000) ∧ (-10000 ≤ g.hi ∧ g.hi ≤ 10000)
  · by_cases h2 : g.lo ≤ g.hi
    · by_cases h3 : last < g.at'
      · simp [firstE, unl, h, h2, h3]
      · simp [firstE, unl, h, h2, h3]
    · simp [firstE, unl, h, h2]
  · simp [firstE, unl, h]
theorem k66 (l : List Gt) (hl : l.length ≤ 1000) : FOk P 66 [.vs (l.map eG)] (.tup [I (chkP l).1, I (chkP l).2]) := by
  by_cases h20 : l.length ≤ 20
  · have h1 : decide ((20 : Int) < (l.length : Int)) = false := by simp; omega
    have hv : chkP l = eachG 0 (-1) l := by simp only [chkP, h20, if_true]
    rw [hv]
    refine c66.fok (by simp only [subs, sub1, free_G]) (Cor.run (addC_good g115 (addC_good g42 (noC_good _))) (noHx_good _) hm ?_)
    simp +contextual -implicitDefEqProofs (maxSteps := 2000000) only [bg_eq, a66, List.length_map, h1, ruB, rh_no, Int.reduceLT, Int.reduceLE, Int.reduceAdd, Int.reduceSub, Int.reduceMul, Int.reduceNeg, Int.reduceToNat, Int.reduceEq, Int.reduceNe, Int.reduceTDiv, Int.reduceTMod, implies_true, putL, appN, appX, appC, Eng.Fi, reduceCtorEq, exists_eq_left', exists_eq_left, if_true, if_false, List.replicate, Nat.reduceAdd, Nat.reduceSub, Nat.reduceMul, Nat.reduceLeDiff, Nat.reduceLT, Nat.reduceEqDiff]
    refine Cor.lp (addC_good g115 (addC_good g42 (noC_good _))) (noHx_good _) hm (S66 l) (fun n => n ≤ l.length ∧ eachG 0 (-1) l = eachG n (prevT l n) (l.drop n)) (fun n => l.length - n) (a := 0) ⟨Nat.zero_le _, by simp [prevT]⟩ (Wkn.keep [0, 2, 3, 4] rfl) ?_
    intro f n ⟨hn, hf⟩ go
    rcases Nat.lt_or_ge n l.length with h | h
    · have e1 : decide ((n : Int) < (l.length : Int)) = true := by simp; omega
      have e2 : (l.map eG)[n]? = some (eG l[n]) := by simp [h]
      have e3 : IntKind.wrap .i64 ((n : Int) + 1) = ((n + 1 : Nat) : Int) := by rw [wrap64 (by omega) (by omega)]; rfl
      have e4 : l.drop n = l[n] :: l.drop (n + 1) := List.drop_eq_getElem_cons h
      have hp : prevT l (n + 1) = l[n].at' := by simp [prevT, h]
      rw [e4, eachG, gErr_val] at hf
      by_cases hr : (0 ≤ l[n].at' ∧ l[n].at' ≤ 50000) ∧ (-10000 ≤ l[n].lo ∧ l[n].lo ≤ 10000) ∧ (-10000 ≤ l[n].hi ∧ l[n].hi ≤ 10000)
      · rw [if_pos hr] at hf
        obtain ⟨r1, r2, r3⟩ := hr
        cases n with
        | zero =>
          have z0 : ((0 : Int) < ((0 : Nat) : Int)) = False := by simp
          have hp0 : prevT l 0 < l[0].at' := by simp [prevT]; omega
          by_cases hw : l[0].hi < l[0].lo
          · simp only [show ¬ (l[0].lo ≤ l[0].hi ∧ prevT l 0 < l[0].at') from by omega, if_false, show ¬ ((9 : Int) = 0) by decide] at hf
            simp +contextual -implicitDefEqProofs (maxSteps := 2000000) only [S66, e1, e2, e3, x42, x115, atE_z, r1, r2, r3, z0, hw, List.length_map, ruB, rh_no, Int.reduceLT, Int.reduceLE, Int.reduceAdd, Int.reduceSub, Int.reduceMul, Int.reduceNeg, Int.reduceToNat, Int.reduceEq, Int.reduceNe, Int.reduceTDiv, Int.reduceTMod, implies_true, putL, appN, appX, appC, Eng.Fi, reduceCtorEq, exists_eq_left', exists_eq_left, if_true, if_false, List.replicate, Nat.reduceAdd, Nat.reduceSub, Nat.reduceMul, Nat.reduceLeDiff, Nat.reduceLT, Nat.reduceEqDiff]
            rw [hf]
          · simp only [show (l[0].lo ≤ l[0].hi ∧ prevT l 0 < l[0].at') from by omega, if_true] at hf
            simp +contextual -implicitDefEqProofs (maxSteps := 2000000) only [S66, e1, e2, e3, x42, x115, atE_z, r1, r2, r3, z0, hw, List.length_map, ruB, rh_no, Int.reduceLT, Int.reduceLE, Int.reduceAdd, Int.reduceSub, Int.reduceMul, Int.reduceNeg, Int.reduceToNat, Int.reduceEq, Int.reduceNe, Int.reduceTDiv, Int.reduceTMod, implies_true, putL, appN, appX, appC, Eng.Fi, reduceCtorEq, exists_eq_left', exists_eq_left, if_true, if_false, List.replicate, Nat.reduceAdd, Nat.reduceSub, Nat.reduceMul, Nat.reduceLeDiff, Nat.reduceLT, Nat.reduceEqDiff]
            exact go _ 1 ⟨h, by rw [hf, hp]; rfl⟩ (by omega) (Wkn.keep [0, 2, 3, 4] rfl)
        | succ m =>
          have hm2 : m < l.length := by omega
          have e5 : (l.map eG)[m]? = some (eG l[m]) := by simp [hm2]
          have e6 : IntKind.wrap .i64 (((m + 1 : Nat) : Int) - 1) = (m : Int) := by rw [wrap64 (by omega) (by omega)]; omega
          have e7 : ((0 : Int) < ((m + 1 : Nat) : Int)) = True := by simp only [eq_iff_iff, iff_true]; omega
          have hp1 : prevT l (m + 1) = l[m].at' := by simp [prevT, hm2]
          rw [hp1] at hf
          by_cases hw : l[m + 1].hi < l[m + 1].lo
          · simp only [show ¬ (l[m + 1].lo ≤ l[m + 1].hi ∧ l[m].at' < l[m + 1].at') from by omega, if_false, show ¬ ((9 : Int) = 0) by decide] at hf
            simp +contextual -implicitDefEqProofs (maxSteps := 2000000) only [S66, e1, e2, e3, e5, e6, e7, x42, x115, atE_z, r1, r2, r3, hw, List.length_map, ruB, rh_no, Int.reduceLT, Int.reduceLE, Int.reduceAdd, Int.reduceSub, Int.reduceMul, Int.reduceNeg, Int.reduceToNat, Int.reduceEq, Int.reduceNe, Int.reduceTDiv, Int.reduceTMod, implies_true, putL, appN, appX, appC, Eng.Fi, reduceCtorEq, exists_eq_left', exists_eq_left, if_true, if_false, List.replicate, Nat.reduceAdd, Nat.reduceSub, Nat.reduceMul, Nat.reduceLeDiff, Nat.reduceLT, Nat.reduceEqDiff]
            rw [hf]
          · by_cases hq : l[m + 1].at' ≤ l[m].at'
            · simp only [show ¬ (l[m + 1].lo ≤ l[m + 1].hi ∧ l[m].at' < l[m + 1].at') from by omega, if_false, show ¬ ((9 : Int) = 0) by decide] at hf
              simp +contextual -implicitDefEqProofs (maxSteps := 2000000) only [S66, e1, e2, e3, e5, e6, e7, x42, x115, atE_z, r1, r2, r3, hw, hq, List.length_map, ruB, rh_no, Int.reduceLT, Int.reduceLE, Int.reduceAdd, Int.reduceSub, Int.reduceMul, Int.reduceNeg, Int.reduceToNat, Int.reduceEq, Int.reduceNe, Int.reduceTDiv, Int.reduceTMod, implies_true, putL, appN, appX, appC, Eng.Fi, reduceCtorEq, exists_eq_left', exists_eq_left, if_true, if_false, List.replicate, Nat.reduceAdd, Nat.reduceSub, Nat.reduceMul, Nat.reduceLeDiff, Nat.reduceLT, Nat.reduceEqDiff]
              rw [hf]
            · simp only [show (l[m + 1].lo ≤ l[m + 1].hi ∧ l[m].at' < l[m + 1].at') from by omega, if_true] at hf
              simp +contextual -implicitDefEqProofs (maxSteps := 2000000) only [S66, e1, e2, e3, e5, e6, e7, x42, x115, atE_z, r1, r2, r3, hw, hq, List.length_map, ruB, rh_no, Int.reduceLT, Int.reduceLE, Int.reduceAdd, Int.reduceSub, Int.reduceMul, Int.reduceNeg, Int.reduceToNat, Int.reduceEq, Int.reduceNe, Int.reduceTDiv, Int.reduceTMod, implies_true, putL, appN, appX, appC, Eng.Fi, reduceCtorEq, exists_eq_left', exists_eq_left, if_true, if_false, List.replicate, Nat.reduceAdd, Nat.reduceSub, Nat.reduceMul, Nat.reduceLeDiff, Nat.reduceLT, Nat.reduceEqDiff]
              exact go _ (m + 2) ⟨h, by rw [hf, hp]; rfl⟩ (by omega) (Wkn.keep [0, 2, 3, 4] rfl)
      · rw [if_neg hr, if_neg (by decide)] at hf
        have hr' : ((¬ (0 ≤ l[n].at' ∧ l[n].at' ≤ 50000) ∨ ¬ (-10000 ≤ l[n].lo ∧ l[n].lo ≤ 10000)) ∨ ¬ (-10000 ≤ l[n].hi ∧ l[n].hi ≤ 10000)) = True := by simp only [eq_iff_iff, iff_true]; omega
        simp +contextual -implicitDefEqProofs (maxSteps := 2000000) only [S66, e1, e2, e3, x42, x115, atE_z, hr', List.length_map, ruB, rh_no, Int.reduceLT, Int.reduceLE, Int.reduceAdd, Int.reduceSub, Int.reduceMul, Int.reduceNeg, Int.reduceToNat, Int.reduceEq, Int.reduceNe, Int.reduceTDiv, Int.reduceTMod, implies_true, putL, appN, appX, appC, Eng.Fi, reduceCtorEq, exists_eq_left', exists_eq_left, if_true, if_false, List.replicate, Nat.reduceAdd, Nat.reduceSub, Nat.reduceMul, Nat.reduceLeDiff, Nat.reduceLT, Nat.reduceEqDiff]
        rw [hf]
    · have e1 : decide ((n : Int) < (l.length : Int)) = false := by simp; omega
      rw [List.drop_eq_nil_of_le h] at hf
      simp +contextual -implicitDefEqProofs (maxSteps := 2000000) only [S66, e1, List.length_map, ruB, rh_no, Int.reduceLT, Int.reduceLE, Int.reduceAdd, Int.reduceSub, Int.reduceMul, Int.reduceNeg, Int.reduceToNat, Int.reduceEq, Int.reduceNe, Int.reduceTDiv, Int.reduceTMod, implies_true, putL, appN, appX, appC, Eng.Fi, reduceCtorEq, exists_eq_left', exists_eq_left, if_true, if_false, List.replicate, Nat.reduceAdd, Nat.reduceSub, Nat.reduceMul, Nat.reduceLeDiff, Nat.reduceLT, Nat.reduceEqDiff]
      rw [hf]; rfl
  · have h1 : decide ((20 : Int) < (l.length : Int)) = true := by simp; omega
    refine c66.fok (by simp only [subs, sub1, free_G]) (Cor.run (addC_good g115 (addC_good g42 (noC_good _))) (noHx_good _) hm ?_)
    simp +contextual -implicitDefEqProofs (maxSteps := 2000000) only [bg_eq, a66, List.length_map, h1, chkP, h20, ruB, rh_no, Int.reduceLT, Int.reduceLE, Int.reduceAdd, Int.reduceSub, Int.reduceMul, Int.reduceNeg, Int.reduceToNat, Int.reduceEq, Int.reduceNe, Int.reduceTDiv, Int.reduceTMod, implies_true, putL, appN, appX, appC, Eng.Fi, reduceCtorEq, exists_eq_left', exists_eq_left, if_true, if_false, List.replicate, Nat.reduceAdd, Nat.reduceSub, Nat.reduceMul, Nat.reduceLeDiff, Nat.reduceLT, Nat.reduceEqDiff]
def c66f : List AV → Option AV
  | [.vs vals] => onL dG vals fun l => if l.length ≤ 1000 then some (.tup [I (chkP l).1, I (chkP l).2]) else none
  | _ => none
theorem g66 : Fn P 66 c66f := fun args v h => by
  unfold c66f at h; split at h
  · obtain ⟨l, rfl, h2⟩ := onL_inv dG_inv h
    split at h2
    · rename_i hc; cases h2; exact k66 l  hc
    · cases h2
  · cases h
theorem x66 (l : List Gt) (h : (l.length ≤ 1000) = True) : c66f [.vs (l.map eG)] = some (.tup [I (chkP l).1, I (chkP l).2]) := by
  simp only [c66f, onL_map dG_e, h, if_true]
theorem k41 (l : List Gt) (hl : l.length ≤ 1000) : FOk P 41 [.vs (l.map eG)] (I (chkP l).2) := by
  have h' : (l.length ≤ 1000) = True := by simp [hl]
  refine c41.fok (by simp only [subs, sub1, free_G]) (Cor.run (addC_good g66 (noC_good _)) (noHx_good _) hm ?_)
  simp +contextual -implicitDefEqProofs (maxSteps := 2000000) only [bg_eq, a41, x66, h', ruB, rh_no, Int.reduceLT, Int.reduceLE, Int.reduceAdd, Int.reduceSub, Int.reduceMul, Int.reduceNeg, Int.reduceToNat, Int.reduceEq, Int.reduceNe, Int.reduceTDiv, Int.reduceTMod, implies_true, putL, appN, appX, appC, Eng.Fi, reduceCtorEq, exists_eq_left', exists_eq_left, if_true, if_false, List.replicate, Nat.reduceAdd, Nat.reduceSub, Nat.reduceMul, Nat.reduceLeDiff, Nat.reduceLT, Nat.reduceEqDiff]
def c41f : List AV → Option AV
  | [.vs vals] => onL dG vals fun l => if l.length ≤ 1000 then some (.int .i64 (chkP l).2) else none
  | _ => none
theorem g41 : Fn P 41 c41f := fun args v h => by
  unfold c41f at h; split at h
  · obtain ⟨l, rfl, h2⟩ := onL_inv dG_inv h
    split at h2
    · rename_i hc; cases h2; exact k41 l  hc
    · cases h2
  · cases h
theorem x41 (l : List Gt) (h : (l.length ≤ 1000) = True) : c41f [.vs (l.map eG)] = some (.int .i64 (chkP l).2) := by
  simp only [c41f, onL_map dG_e, h, if_true]
/-! blind stretches of the reference -/
abbrev OuN := Option (List Rg × Rg)
def OuN.l : OuN → List Rg
  | none => []
  | some (m, a) => m ++ [a]
def okP (l : List Gt) : Prop := l.length ≤ 1000 ∧ ∀ g ∈ l, 0 ≤ g.at' ∧ g.at' ≤ 50000
instance (l : List Gt) : Decidable (okP l) := by unfold okP; infer_instance
def c46f : List AV → Option AV
  | [.vs vals, .int .i64 gap, .int .i64 a] => onL dG vals fun l => if okP l ∧ (0 ≤ a ∧ a ≤ 50000) then some (B (isBl l gap a)) else none
  | _ => none
theorem g46 : Fn P 46 c46f := fun args v h => by
  unfold c46f at h; split at h
  · obtain ⟨l, rfl, h2⟩ := onL_inv dG_inv h
    split at h2
    · rename_i hc; cases h2; exact k46 l _ _ hc.1.1 hc.1.2 hc.2
    · cases h2
  · cases h
theorem x46 (l : List Gt) (gap a : Int) (h : (okP l ∧ (0 ≤ a ∧ a ≤ 50000)) = True) : c46f [.vs (l.map eG), .int .i64 gap, .int .i64 a] = some (.bool (isBl l gap a)) := by
  simp only [c46f, onL_map dG_e, h, if_true]
def addD (t : Int) : OuN → OuN
  | none => some ([], ⟨t, t⟩)
  | some (m, a) => if a.hi = t - 1 then some (m, ⟨a.lo, t⟩) else some (m ++ [a], ⟨t, t⟩)
def stD (l : List Gt) (gap t : Int) (o : OuN) : OuN := if isBl l gap t = true then addD t o else o
def runD (l : List Gt) (gap : Int) : Nat → Int → OuN → OuN
  | 0, _, o => o
  | k + 1, t, o => runD l gap k (t + 1) (stD l gap t o)
def outv44 : OuN → AV
  | none => .nilslice
  | some (m, _) => .slice 1 2 0 (m.length + 1)
def outh44 : OuN → List HEnt → List HEnt
  | none, h => h
  | some (m, a), h => ⟨1, 1, .rows 64 2 (m.map eN ++ [eN a])⟩ :: h
def S44 (l : List Gt) (lo hi gap : Int) (p : Nat × Int × OuN) : AState := ⟨[.vs (l.map eG), .any, I gap, .any, .ptr 0 2 0 0, .any, .nilslice, outv44 p.2.2, I p.2.1, .any, .any, .any, .any, .any, .any, .any, .any, .any, .any, .any, .any, .any, .any, .any, .any, .any, .any, .any, .any, .any, .any, .any, .any, .any, .any, .any, .any, .any, .any, .any, .any, .any, .any, .any, .any, .any, .any, .any, .any, .any, .any], outh44 p.2.2 [⟨0, 0, .rows 64 2 [.agg [I lo, I hi]]⟩], 2⟩
theorem addD_len (t : Int) (o : OuN) : (addD t o).l.length ≤ o.l.length + 1 := by
  cases o with
  | none => simp [addD, OuN.l]
  | some p => obtain ⟨m, a⟩ := p; simp only [addD]; split <;> simp [OuN.l]
theorem mxL (k : Nat) (h : k ≤ 100000) : (k ≤ maxLen) = True := by
  simp only [eq_iff_iff, iff_true]
  exact Nat.le_trans h (by decide)
set_option maxHeartbeats 2000000 in
theorem k44 (l : List Gt) (lo hi gap : Int) (hl : okP l) (h1 : 0 ≤ lo) (h2 : lo ≤ hi) (h3 : hi ≤ 50000) : FOk P 44 [.vs (l.map eG), .agg [I lo, I hi], I gap] (.vs ((runD l gap (hi + 1 - lo).toNat lo none).l.map eN)) := by
  refine c44.fok (by simp only [subs, sub1, free_G]) (Cor.run (addC_good g46 (noC_good _)) (noHx_good _) hm ?_)
  simp +contextual -implicitDefEqProofs (maxSteps := 2000000) only [bg_eq, a44, ruB, rh_no, Int.reduceLT, Int.reduceLE, Int.reduceAdd, Int.reduceSub, Int.reduceMul, Int.reduceNeg, Int.reduceToNat, Int.reduceEq, Int.reduceNe, Int.reduceTDiv, Int.reduceTMod, implies_true, putL, appN, appX, appC, Eng.Fi, reduceCtorEq, exists_eq_left', exists_eq_left, if_true, if_false, List.replicate, Nat.reduceAdd, Nat.reduceSub, Nat.reduceMul, Nat.reduceLeDiff, Nat.reduceLT, Nat.reduceEqDiff]
  refine Cor.lp (addC_good g46 (noC_good _)) (noHx_good _) hm (S44 l lo hi gap) (fun p => (p.1 : Int) + p.2.1 = hi + 1 ∧ lo ≤ p.2.1 ∧ runD l gap (hi + 1 - lo).toNat lo none = runD l gap p.1 p.2.1 p.2.2 ∧ (p.2.2.l.length : Int) ≤ p.2.1 - lo ∧ (∀ r ∈ p.2.2.l, 0 ≤ r.hi ∧ r.hi ≤ 50000)) (fun p => p.1) (a := ((hi + 1 - lo).toNat, lo, none)) ⟨by simp only; omega, by simp only; omega, rfl, by simp [OuN.l], by simp [OuN.l]⟩ (Wkn.to ⟨0, [(0, 0)], [], 2, [0, 2, 4, 6, 7, 8]⟩ rfl rfl (by simp only [Wk.st, keepT, sub1, subs, Wk.hp, ABlk.sub, free_G]; try rfl)) ?_
  rintro f ⟨k, t, o⟩ ⟨hk, ht, hf, hol, hor⟩ go
  simp only at hk ht hf hol hor
  cases k with
  | succ k =>
    have hle : (t ≤ hi) = True := by simp only [eq_iff_iff, iff_true]; omega
    have e3 : IntKind.wrap .i64 (t + 1) = t + 1 := wrap64 (by omega) (by omega)
    have e4 : IntKind.wrap .i64 (t - 1) = t - 1 := wrap64 (by omega) (by omega)
    have y := x46 l gap t (by simp only [eq_iff_iff, iff_true]; exact ⟨hl, by omega, by omega⟩)
    rw [runD] at hf
    cases hb : isBl l gap t
    · rw [hb] at y
      rw [show stD l gap t o = o by simp [stD, hb]] at hf
      cases o with
      | none =>
        simp +contextual -implicitDefEqProofs (maxSteps := 2000000) only [S44, outv44, outh44, hle, e3, y, ruB, rh_no, Int.reduceLT, Int.reduceLE, Int.reduceAdd, Int.reduceSub, Int.reduceMul, Int.reduceNeg, Int.reduceToNat, Int.reduceEq, Int.reduceNe, Int.reduceTDiv, Int.reduceTMod, implies_true, putL, appN, appX, appC, Eng.Fi, reduceCtorEq, exists_eq_left', exists_eq_left, if_true, if_false, List.replicate, Nat.reduceAdd, Nat.reduceSub, Nat.reduceMul, Nat.reduceLeDiff, Nat.reduceLT, Nat.reduceEqDiff]
        exact go _ (k, t + 1, none) ⟨by simp only; omega, by simp only; omega, hf, by simp [OuN.l]; omega, hor⟩ (by simp only; omega) (Wkn.to ⟨0, [(0, 0)], [], 2, [0, 2, 4, 6, 7, 8]⟩ rfl rfl (by simp only [Wk.st, keepT, sub1, subs, Wk.hp, ABlk.sub, free_G, S44, outv44, outh44]; try rfl))
      | some p =>
        obtain ⟨m, a⟩ := p
        simp +contextual -implicitDefEqProofs (maxSteps := 2000000) only [S44, outv44, outh44, hle, e3, y, ruB, rh_no, Int.reduceLT, Int.reduceLE, Int.reduceAdd, Int.reduceSub, Int.reduceMul, Int.reduceNeg, Int.reduceToNat, Int.reduceEq, Int.reduceNe, Int.reduceTDiv, Int.reduceTMod, implies_true, putL, appN, appX, appC, Eng.Fi, reduceCtorEq, exists_eq_left', exists_eq_left, if_true, if_false, List.replicate, Nat.reduceAdd, Nat.reduceSub, Nat.reduceMul, Nat.reduceLeDiff, Nat.reduceLT, Nat.reduceEqDiff]
        exact go _ (k, t + 1, some (m, a)) ⟨by simp only; omega, by simp only; omega, hf, by simp only; omega, hor⟩ (by simp only; omega) (Wkn.to ⟨0, [(0, 0), (1, 1)], [], 2, [0, 2, 4, 6, 7, 8]⟩ rfl rfl (by simp only [Wk.st, keepT, sub1, subs, Wk.hp, ABlk.sub, free_G, subs_app, free_N, S44, outv44, outh44]; try rfl))
    · rw [hb] at y
      rw [show stD l gap t o = addD t o by simp [stD, hb]] at hf
      cases o with
      | none =>
        simp +contextual -implicitDefEqProofs (maxSteps := 2000000) only [S44, outv44, outh44, hle, e3, e4, y, mx, List.length_map, ruB, rh_no, Int.reduceLT, Int.reduceLE, Int.reduceAdd, Int.reduceSub, Int.reduceMul, Int.reduceNeg, Int.reduceToNat, Int.reduceEq, Int.reduceNe, Int.reduceTDiv, Int.reduceTMod, implies_true, putL, appN, appX, appC, Eng.Fi, reduceCtorEq, exists_eq_left', exists_eq_left, if_true, if_false, List.replicate, Nat.reduceAdd, Nat.reduceSub, Nat.reduceMul, Nat.reduceLeDiff, Nat.reduceLT, Nat.reduceEqDiff]
        exact go _ (k, t + 1, some ([], ⟨t, t⟩)) ⟨by simp only; omega, by simp only; omega, hf, by simp [OuN.l]; omega, by simp [OuN.l]; omega⟩ (by simp only; omega) (Wkn.to ⟨0, [(0, 0), (2, 1)], [], 2, [0, 2, 4, 6, 7, 8]⟩ rfl rfl (by simp only [Wk.st, keepT, sub1, subs, Wk.hp, ABlk.sub, free_G, S44, outv44, outh44]; try rfl))
      | some p =>
        obtain ⟨m, a⟩ := p
        have hml : (m.length : Int) + 1 ≤ t - lo := by simpa [OuN.l] using hol
        have w4 : IntKind.wrap .i64 (((m.length + 1 : Nat) : Int) - 1) = (m.length : Int) := by rw [wrap64 (by omega) (by omega)]; omega
        have w5 : ((0 : Int) < ((m.length + 1 : Nat) : Int)) = True := by simp only [eq_iff_iff, iff_true]; omega
        have hmx : (m.length + 1 + 1 ≤ maxLen) = True := mxL _ (by omega)
        have hmx2 : ((m.length + 1 + 1) * 16 ≤ 140737488355328) = True := by simp only [eq_iff_iff, iff_true]; omega
        by_cases hq : a.hi = t - 1
        · rw [show addD t (some (m, a)) = some (m, ⟨a.lo, t⟩) by simp [addD, hq]] at hf
          simp +contextual -implicitDefEqProofs (maxSteps := 2000000) only [S44, outv44, outh44, hle, e3, e4, y, w4, w5, hq, endm_get, endm_set, Nat.lt_add_one, List.length_map, ruB, rh_no, Int.reduceLT, Int.reduceLE, Int.reduceAdd, Int.reduceSub, Int.reduceMul, Int.reduceNeg, Int.reduceToNat, Int.reduceEq, Int.reduceNe, Int.reduceTDiv, Int.reduceTMod, implies_true, putL, appN, appX, appC, Eng.Fi, reduceCtorEq, exists_eq_left', exists_eq_left, if_true, if_false, List.replicate, Nat.reduceAdd, Nat.reduceSub, Nat.reduceMul, Nat.reduceLeDiff, Nat.reduceLT, Nat.reduceEqDiff]
          refine go _ (k, t + 1, some (m, ⟨a.lo, t⟩)) ⟨by simp only; omega, by simp only; omega, hf, by simp [OuN.l]; omega, ?_⟩ (by simp only; omega) (Wkn.to ⟨0, [(0, 0), (1, 1)], [], 2, [0, 2, 4, 6, 7, 8]⟩ rfl rfl (by simp only [Wk.st, keepT, sub1, subs, Wk.hp, ABlk.sub, free_G, subs_app, free_N, S44, outv44, outh44]; try rfl))
          intro r hr
          simp only [OuN.l, List.mem_append, List.mem_singleton] at hr
          rcases hr with hr | rfl
          · exact hor r (by simp [OuN.l, hr])
          · simp only; omega
        · rw [show addD t (some (m, a)) = some (m ++ [a], ⟨t, t⟩) by simp [addD, hq]] at hf
          simp +contextual -implicitDefEqProofs (maxSteps := 2000000) only [S44, outv44, outh44, hle, e3, e4, y, w4, w5, hq, hmx, hmx2, endm_get, endm_set, Nat.lt_add_one, List.length_map, ruB, rh_no, Int.reduceLT, Int.reduceLE, Int.reduceAdd, Int.reduceSub, Int.reduceMul, Int.reduceNeg, Int.reduceToNat, Int.reduceEq, Int.reduceNe, Int.reduceTDiv, Int.reduceTMod, implies_true, putL, appN, appX, appC, Eng.Fi, reduceCtorEq, exists_eq_left', exists_eq_left, if_true, if_false, List.replicate, Nat.reduceAdd, Nat.reduceSub, Nat.reduceMul, Nat.reduceLeDiff, Nat.reduceLT, Nat.reduceEqDiff]
          refine go _ (k, t + 1, some (m ++ [a], ⟨t, t⟩)) ⟨by simp only; omega, by simp only; omega, hf, by simp [OuN.l]; omega, ?_⟩ (by simp only; omega) (Wkn.to ⟨0, [(0, 0), (2, 1)], [], 2, [0, 2, 4, 6, 7, 8]⟩ rfl rfl (by simp only [Wk.st, keepT, sub1, subs, Wk.hp, ABlk.sub, free_G, subs_app, free_N, S44, outv44, outh44, List.map_append, List.map_cons, List.map_nil, List.length_append, List.length_cons, List.length_nil, Nat.zero_add]; try rfl))
          intro r hr
          simp only [OuN.l, List.mem_append, List.mem_singleton] at hr
          rcases hr with hr | rfl
          · exact hor r (by simpa [OuN.l] using hr)
          · simp only; omega
  | zero =>
    have hle : (t ≤ hi) = False := by simp only [eq_iff_iff, iff_false]; omega
    rw [runD] at hf
    rw [hf]
    cases o with
    | none =>
      simp +contextual -implicitDefEqProofs (maxSteps := 2000000) only [S44, outv44, outh44, hle, OuN.l, ruB, rh_no, Int.reduceLT, Int.reduceLE, Int.reduceAdd, Int.reduceSub, Int.reduceMul, Int.reduceNeg, Int.reduceToNat, Int.reduceEq, Int.reduceNe, Int.reduceTDiv, Int.reduceTMod, implies_true, putL, appN, appX, appC, Eng.Fi, reduceCtorEq, exists_eq_left', exists_eq_left, if_true, if_false, List.replicate, Nat.reduceAdd, Nat.reduceSub, Nat.reduceMul, Nat.reduceLeDiff, Nat.reduceLT, Nat.reduceEqDiff]
      exact ⟨rfl, rfl⟩
    | some p =>
      obtain ⟨m, a⟩ := p
      have t1 : (m.length ≤ (m.map eN).length) = True := by simp
      have t2 : ∀ x, (m.map eN ++ [x]).take (m.length + 1) = m.map eN ++ [x] := fun x => by rw [List.take_of_length_le]; simp
      simp +contextual -implicitDefEqProofs (maxSteps := 2000000) only [S44, outv44, outh44, hle, OuN.l, List.length_map, t1, t2, ruB, rh_no, Int.reduceLT, Int.reduceLE, Int.reduceAdd, Int.reduceSub, Int.reduceMul, Int.reduceNeg, Int.reduceToNat, Int.reduceEq, Int.reduceNe, Int.reduceTDiv, Int.reduceTMod, implies_true, putL, appN, appX, appC, Eng.Fi, reduceCtorEq, exists_eq_left', exists_eq_left, if_true, if_false, List.replicate, Nat.reduceAdd, Nat.reduceSub, Nat.reduceMul, Nat.reduceLeDiff, Nat.reduceLT, Nat.reduceEqDiff]
      exact ⟨by simp, by rw [free_N]⟩
/-! a position in ranges -/
def inR (t : Int) (r : Rg) : Bool := decide (r.lo ≤ t ∧ t ≤ r.hi)
def S45 (l : List Rg) (t : Int) (n : Nat) : AState := ⟨[.vs (l.map eN), I t, .any, .any, B false, I n, .any, .any, .any, .any, .any, .any, .any, .any, .any, .any, .any, .any, .any, .any, .any, .any, .any, .any], [], 0⟩
theorem k45 (l : List Rg) (t : Int) (hl : l.length ≤ 1099511627776) : FOk P 45 [.vs (l.map eN), I t] (B (l.any (inR t))) := by
  refine c45.fok (by simp only [subs, sub1, free_N]) (Cor.run (addC_good g33 (noC_good _)) (noHx_good _) hm ?_)
  simp +contextual -implicitDefEqProofs (maxSteps := 2000000) only [bg_eq, a45, List.length_map, ruB, rh_no, Int.reduceLT, Int.reduceLE, Int.reduceAdd, Int.reduceSub, Int.reduceMul, Int.reduceNeg, Int.reduceToNat, Int.reduceEq, Int.reduceNe, Int.reduceTDiv, Int.reduceTMod, implies_true, putL, appN, appX, appC, Eng.Fi, reduceCtorEq, exists_eq_left', exists_eq_left, if_true, if_false, List.replicate, Nat.reduceAdd, Nat.reduceSub, Nat.reduceMul, Nat.reduceLeDiff, Nat.reduceLT, Nat.reduceEqDiff]
  refine Cor.lp (addC_good g33 (noC_good _)) (noHx_good _) hm (S45 l t) (fun n => n ≤ l.length ∧ l.any (inR t) = (l.drop n).any (inR t)) (fun n => l.length - n) (a := 0) ⟨Nat.zero_le _, by simp⟩ (Wkn.keep [0, 1, 4, 5] rfl) ?_
  intro f n ⟨hn, ht⟩ go
  rcases Nat.lt_or_ge n l.length with h | h
  · have e1 : decide ((n : Int) < (l.length : Int)) = true := by simp; omega
    have e2 : (l.map eN)[n]? = some (eN l[n]) := by simp [h]
    have e3 : IntKind.wrap .i64 ((n : Int) + 1) = ((n + 1 : Nat) : Int) := by rw [wrap64 (by omega) (by omega)]; rfl
    rw [List.drop_eq_getElem_cons h, List.any_cons] at ht
    generalize l[n] = g at *
    by_cases hc : g.lo ≤ t ∧ t ≤ g.hi
    · have hr : l.any (inR t) = true := by rw [ht]; simp only [inR, hc, and_self, decide_true, Bool.true_or]
      simp +contextual -implicitDefEqProofs (maxSteps := 2000000) only [S45, e1, e2, e3, x33, hc, List.length_map, hr, ruB, rh_no, Int.reduceLT, Int.reduceLE, Int.reduceAdd, Int.reduceSub, Int.reduceMul, Int.reduceNeg, Int.reduceToNat, Int.reduceEq, Int.reduceNe, Int.reduceTDiv, Int.reduceTMod, implies_true, putL, appN, appX, appC, Eng.Fi, reduceCtorEq, exists_eq_left', exists_eq_left, if_true, if_false, List.replicate, Nat.reduceAdd, Nat.reduceSub, Nat.reduceMul, Nat.reduceLeDiff, Nat.reduceLT, Nat.reduceEqDiff]
    · rw [show inR t g = false by simp only [inR, hc, decide_false], Bool.false_or] at ht
      simp +contextual -implicitDefEqProofs (maxSteps := 2000000) only [S45, e1, e2, e3, x33, hc, List.length_map, ruB, rh_no, Int.reduceLT, Int.reduceLE, Int.reduceAdd, Int.reduceSub, Int.reduceMul, Int.reduceNeg, Int.reduceToNat, Int.reduceEq, Int.reduceNe, Int.reduceTDiv, Int.reduceTMod, implies_true, putL, appN, appX, appC, Eng.Fi, reduceCtorEq, exists_eq_left', exists_eq_left, if_true, if_false, List.replicate, Nat.reduceAdd, Nat.reduceSub, Nat.reduceMul, Nat.reduceLeDiff, Nat.reduceLT, Nat.reduceEqDiff]
      exact go _ (n + 1) ⟨h, ht⟩ (by omega) (Wkn.keep [0, 1, 4, 5] rfl)
  · have e1 : decide ((n : Int) < (l.length : Int)) = false := by simp; omega
    rw [List.drop_eq_nil_of_le h] at ht
    have hr : l.any (inR t) = false := by simp only [ht, List.any_nil]
    simp +contextual -implicitDefEqProofs (maxSteps := 2000000) only [S45, e1, List.length_map, hr, ruB, rh_no, Int.reduceLT, Int.reduceLE, Int.reduceAdd, Int.reduceSub, Int.reduceMul, Int.reduceNeg, Int.reduceToNat, Int.reduceEq, Int.reduceNe, Int.reduceTDiv, Int.reduceTMod, implies_true, putL, appN, appX, appC, Eng.Fi, reduceCtorEq, exists_eq_left', exists_eq_left, if_true, if_false, List.replicate, Nat.reduceAdd, Nat.reduceSub, Nat.reduceMul, Nat.reduceLeDiff, Nat.reduceLT, Nat.reduceEqDiff]
end Sh
