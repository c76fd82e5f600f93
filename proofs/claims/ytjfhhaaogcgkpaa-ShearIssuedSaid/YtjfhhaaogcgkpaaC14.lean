import Derived.Test.YtjfhhaaogcgkpaaEngS9
import Derived.Test.YtjfhhaaogcgkpaaC13
open Go Go.Proofs Eng
set_option maxRecDepth 100000
set_option linter.unusedSimpArgs false
set_option linter.unusedVariables false
def a26 : AC := .seq (.ops false [] [⟨some 2, .p (.mov), [.c (.int .i64 0)], none⟩, ⟨some 3, .p (.mov), [.c (.int .i64 0)], none⟩]) (.seq (.seq (.ops false [] [⟨some 6, .p (.mov), [.t 0], none⟩, ⟨some 7, .p (.lenS), [.t 6], none⟩, ⟨some 8, .p (.binI .gtr), [.t 7, .c (.int .i64 40)], none⟩]) (.cond (.t 8) (.seq (.ops false [] [⟨some 2, .p (.mov), [.c (.int .i64 0)], none⟩, ⟨some 3, .p (.mov), [.c (.int .i64 8)], none⟩]) (.ret)) (.skip))) (.seq (.seq (.ops false [] [⟨some 4, .p (.mov), [.c (.int .i64 0)], none⟩]) (.block 0 (.loop (.seq (.seq (.ops false [] [⟨some 9, .p (.mov), [.t 4], none⟩, ⟨some 10, .p (.mov), [.t 0], none⟩, ⟨some 11, .p (.lenS), [.t 10], none⟩, ⟨some 12, .p (.binI .lss), [.t 9, .t 11], none⟩]) (.cond (.t 12) (.skip) (.exit 0))) (.seq (.block 1 (.seq (.seq (.ops false [] [⟨some 15, .p (.mov), [.t 0], none⟩, ⟨some 16, .p (.mov), [.t 4], none⟩, ⟨some 17, .p (.iaddrS 3), [.t 15, .t 16], none⟩, ⟨some 18, .load 3 true, [.t 17], none⟩, ⟨some 19, .call 51, [.t 18], none⟩, ⟨some 5, .p (.mov), [.t 19], none⟩]) (.seq (.ops false [] [⟨some 20, .p (.mov), [.t 5], none⟩, ⟨some 21, .p (.binI .neq), [.t 20, .c (.int .i64 0)], none⟩]) (.cond (.t 21) (.seq (.ops false [] [⟨some 22, .p (.mov), [.t 4], none⟩, ⟨some 23, .p (.mov), [.t 5], none⟩, ⟨some 2, .p (.mov), [.t 22], none⟩, ⟨some 3, .p (.mov), [.t 23], none⟩]) (.ret)) (.skip)))) (.seq (.ops true [] [⟨some 24, .p (.mov), [.t 4], none⟩, ⟨some 25, .p (.binI .gtr), [.t 24, .c (.int .i64 0)], none⟩, ⟨some 26, .p (.mov), [.t 25], none⟩, ⟨some 27, .p (.mov), [.t 0], some (26, true)⟩, ⟨some 28, .p (.mov), [.t 4], some (26, true)⟩, ⟨some 29, .p (.iaddrS 3), [.t 27, .t 28], some (26, true)⟩, ⟨some 30, .p (.faddr 0), [.t 29], some (26, true)⟩, ⟨some 31, .load 1 false, [.t 30], some (26, true)⟩, ⟨some 32, .p (.mov), [.t 0], some (26, true)⟩, ⟨some 33, .p (.mov), [.t 4], some (26, true)⟩, ⟨some 34, .p (.binI .sub), [.t 33, .c (.int .i64 1)], some (26, true)⟩, ⟨some 35, .p (.iaddrS 3), [.t 32, .t 34], some (26, true)⟩, ⟨some 36, .p (.faddr 0), [.t 35], some (26, true)⟩, ⟨some 37, .load 1 false, [.t 36], some (26, true)⟩, ⟨some 38, .p (.binI .leq), [.t 31, .t 37], some (26, true)⟩, ⟨some 39, .p (.pick), [.t 26, .t 38, .c (.bool false)], none⟩]) (.cond (.t 39) (.seq (.ops false [] [⟨some 40, .p (.mov), [.t 4], none⟩, ⟨some 2, .p (.mov), [.t 40], none⟩, ⟨some 3, .p (.mov), [.c (.int .i64 9)], none⟩]) (.ret)) (.skip))))) (.ops false [] [⟨some 13, .p (.mov), [.t 4], none⟩, ⟨some 14, .p (.binI .add), [.t 13, .c (.int .i64 1)], none⟩, ⟨some 4, .p (.mov), [.t 14], none⟩])))))) (.seq (.ops false [] [⟨some 2, .p (.mov), [.c (.int .i64 0)], none⟩, ⟨some 3, .p (.mov), [.c (.int .i64 0)], none⟩]) (.ret))))
theorem c26 : FnC Try.prog 26 41 a26 [.tmp 2, .tmp 3] := ⟨Try.call26, _, _, Try.func26, rfl, by kernel_rfl, by kernel_rfl, rfl⟩
def a52 : AC := .seq (.ops false [] [⟨some 3, .box 40 4 1 true, [.t 0], none⟩, ⟨some 4, .box 47 5 1 true, [.t 1], none⟩, ⟨some 5, .box 66 3 1 true, [.t 2], none⟩, ⟨some 6, .alloc 47 5 [.agg [.bool false, .int .i64 0, .int .i64 0, .int .i64 0, .int .i64 0]], [], none⟩, ⟨some 7, .p (.mov), [.c (.int .i64 0)], none⟩]) (.seq (.seq (.ops false [] [⟨some 8, .p (.faddr 0), [.t 5], none⟩, ⟨some 9, .load 1 false, [.t 8], none⟩, ⟨some 10, .p (.faddr 3), [.t 4], none⟩, ⟨some 11, .load 1 false, [.t 10], none⟩, ⟨some 12, .p (.binI .leq), [.t 9, .t 11], none⟩]) (.cond (.t 12) (.seq (.ops false [] [⟨some 13, .p (.build [.bool false, .int .i64 0, .int .i64 0, .int .i64 0, .int .i64 0] []), [], none⟩, ⟨none, .store 5 true, [.t 6, .t 13], none⟩, ⟨some 7, .p (.mov), [.c (.int .i64 9)], none⟩]) (.ret)) (.skip))) (.seq (.ops false [] [⟨some 14, .load 4 true, [.t 3], none⟩, ⟨some 15, .load 5 true, [.t 4], none⟩, ⟨some 16, .p (.faddr 0), [.t 5], none⟩, ⟨some 17, .load 1 false, [.t 16], none⟩, ⟨some 18, .call 96, [.t 14, .t 15, .t 17], none⟩, ⟨none, .store 5 true, [.t 4, .t 18], none⟩]) (.seq (.seq (.ops false [] [⟨some 19, .p (.faddr 0), [.t 4], none⟩, ⟨some 20, .load 1 false, [.t 19], none⟩, ⟨some 21, .p (.mov), [.t 20], none⟩, ⟨some 22, .p (.faddr 1), [.t 5], some (21, true)⟩, ⟨some 23, .p (.faddr 1), [.t 22], some (21, true)⟩, ⟨some 24, .load 1 false, [.t 23], some (21, true)⟩, ⟨some 25, .p (.faddr 1), [.t 3], some (21, true)⟩, ⟨some 26, .load 1 false, [.t 25], some (21, true)⟩, ⟨some 27, .p (.binI .lss), [.t 24, .t 26], some (21, true)⟩, ⟨some 28, .p (.pick), [.t 21, .t 27, .c (.bool false)], none⟩]) (.cond (.t 28) (.seq (.seq (.ops false [] [⟨some 29, .p (.faddr 4), [.t 4], none⟩, ⟨some 30, .load 1 false, [.t 29], none⟩, ⟨some 31, .p (.binI .eql), [.t 30, .c (.int .i64 (-1))], none⟩]) (.cond (.t 31) (.ops false [] [⟨some 32, .p (.faddr 0), [.t 5], none⟩, ⟨some 33, .load 1 false, [.t 32], none⟩, ⟨some 34, .p (.faddr 4), [.t 4], none⟩, ⟨none, .store 1 false, [.t 34, .t 33], none⟩]) (.skip))) (.seq (.ops false [] [⟨some 35, .p (.faddr 0), [.t 5], none⟩, ⟨some 36, .load 1 false, [.t 35], none⟩, ⟨some 37, .p (.faddr 4), [.t 4], none⟩, ⟨some 38, .load 1 false, [.t 37], none⟩, ⟨some 39, .p (.binI .sub), [.t 36, .t 38], none⟩, ⟨some 40, .p (.faddr 2), [.t 3], none⟩, ⟨some 41, .load 1 false, [.t 40], none⟩, ⟨some 42, .p (.binI .geq), [.t 39, .t 41], none⟩]) (.cond (.t 42) (.ops false [] [⟨some 43, .load 5 true, [.t 4], none⟩, ⟨some 44, .call 110, [.t 43], none⟩, ⟨none, .store 5 true, [.t 4, .t 44], none⟩]) (.skip)))) (.seq (.ops false [] [⟨some 45, .p (.faddr 0), [.t 4], none⟩, ⟨some 46, .load 1 false, [.t 45], none⟩]) (.cond (.t 46) (.ops false [] [⟨some 47, .p (.faddr 4), [.t 4], none⟩, ⟨none, .store 1 false, [.t 47, .c (.int .i64 (-1))], none⟩]) (.skip))))) (.seq (.seq (.ops false [] [⟨some 48, .p (.faddr 0), [.t 4], none⟩, ⟨some 49, .load 1 false, [.t 48], none⟩, ⟨some 50, .p (.notB), [.t 49], none⟩, ⟨some 51, .p (.mov), [.t 50], none⟩, ⟨some 52, .p (.faddr 1), [.t 5], some (51, true)⟩, ⟨some 53, .p (.faddr 0), [.t 52], some (51, true)⟩, ⟨some 54, .load 1 false, [.t 53], some (51, true)⟩, ⟨some 55, .p (.faddr 0), [.t 3], some (51, true)⟩, ⟨some 56, .load 1 false, [.t 55], some (51, true)⟩, ⟨some 57, .p (.binI .geq), [.t 54, .t 56], some (51, true)⟩, ⟨some 58, .p (.pick), [.t 51, .t 57, .c (.bool false)], none⟩]) (.cond (.t 58) (.seq (.seq (.ops false [] [⟨some 59, .p (.faddr 1), [.t 4], none⟩, ⟨some 60, .load 1 false, [.t 59], none⟩, ⟨some 61, .p (.binI .eql), [.t 60, .c (.int .i64 62500)], none⟩]) (.cond (.t 61) (.seq (.ops false [] [⟨some 62, .p (.build [.bool false, .int .i64 0, .int .i64 0, .int .i64 0, .int .i64 0] []), [], none⟩, ⟨none, .store 5 true, [.t 6, .t 62], none⟩, ⟨some 7, .p (.mov), [.c (.int .i64 15)], none⟩]) (.ret)) (.skip))) (.ops true [(4, 6), (4, 8)] [⟨some 63, .p (.faddr 1), [.t 4], none⟩, ⟨some 64, .load 1 false, [.t 63], none⟩, ⟨some 65, .p (.binI .add), [.t 64, .c (.int .i64 1)], none⟩, ⟨some 66, .p (.faddr 0), [.t 5], none⟩, ⟨some 67, .load 1 false, [.t 66], none⟩, ⟨some 68, .p (.faddr 0), [.t 4], none⟩, ⟨none, .store 1 false, [.t 68, .c (.bool true)], none⟩, ⟨some 69, .p (.faddr 1), [.t 4], none⟩, ⟨none, .store 1 false, [.t 69, .t 65], none⟩, ⟨some 70, .p (.faddr 2), [.t 4], none⟩, ⟨none, .store 1 false, [.t 70, .t 67], none⟩])) (.skip))) (.seq (.ops false [] [⟨some 71, .p (.faddr 0), [.t 5], none⟩, ⟨some 72, .load 1 false, [.t 71], none⟩, ⟨some 73, .p (.faddr 3), [.t 4], none⟩, ⟨none, .store 1 false, [.t 73, .t 72], none⟩]) (.seq (.ops false [] [⟨some 74, .load 5 true, [.t 4], none⟩, ⟨none, .store 5 true, [.t 6, .t 74], none⟩, ⟨some 7, .p (.mov), [.c (.int .i64 0)], none⟩]) (.ret)))))))
theorem c52 : FnC Try.prog 52 75 a52 [.cell 6 5 true, .tmp 7] := ⟨Try.call52, _, _, Try.func52, rfl, by kernel_rfl, by kernel_rfl, rfl⟩
namespace Sh

/-! the reference's next state -/
def zS : St := ⟨false, 0, 0, 0, 0⟩
def nextR (r : Rl) (s : St) (e : Gt) : St × Int := if e.at' ≤ s.heard then (zS, 9) else if (hearS r s e).2 = 0 then hearS r s e else (zS, (hearS r s e).2)
set_option maxHeartbeats 4000000 in
theorem k52 (r : Rl) (s : St) (e : Gt) (h1 : sm e.at') (h0 : 0 ≤ e.at') (h2 : sm s.heard) (h3 : sm s.quiet) (h4 : sm s.num) : FOk P 52 [eR r, eS s, eG e] (.tup [eS (nextR r s e).1, I (nextR r s e).2]) := by
  refine c52.fok rfl (Cor.run (addC_good g110 (addC_good g96 (noC_good _))) (noHx_good _) hm ?_)
  by_cases hle : e.at' ≤ s.heard
  · simp +contextual -implicitDefEqProofs only [bg_eq, a52, nextR, hle, zS, ruB, rh_no, Int.reduceLT, Int.reduceLE, Int.reduceAdd, Int.reduceSub, Int.reduceMul, Int.reduceNeg, Int.reduceToNat, Int.reduceEq, Int.reduceNe, Int.reduceTDiv, Int.reduceTMod, implies_true, putL, appN, appX, Eng.Fi, reduceCtorEq, exists_eq_left', exists_eq_left, if_true, if_false, List.replicate, Nat.reduceAdd, Nat.reduceSub, Nat.reduceMul, Nat.reduceLeDiff, Nat.reduceLT, Nat.reduceEqDiff]
  · have y0 := x96 r s e.at' (by simp only [eq_iff_iff, iff_true]; exact ⟨h1, h2⟩)
    have hq : sm (expS r s e.at').quiet := by unfold expS endS; split <;> (try simp only) <;> omega
    have hn : sm (expS r s e.at').num := by unfold expS endS; split <;> (try simp only) <;> omega
    have hh : nextR r s e = if (finS r (midS r (expS r s e.at') e) e).2 = 0 then finS r (midS r (expS r s e.at') e) e else (zS, (finS r (midS r (expS r s e.at') e) e).2) := by
      simp only [nextR, hle, if_false, hearS]
      rfl
    rw [hh]
    clear hh
    generalize expS r s e.at' = s1 at *
    obtain ⟨u, n, si, he, q⟩ := s1
    simp only at hq hn y0
    have e1 : IntKind.wrap .i64 (e.at' - q) = e.at' - q := wrap64 (by omega) (by omega)
    have e2 : IntKind.wrap .i64 (e.at' - e.at') = 0 := by rw [wrap64 (by omega) (by omega)]; omega
    have e3 : IntKind.wrap .i64 (n + 1) = n + 1 := wrap64 (by omega) (by omega)
    have z15 : ((15 : Int) = 0) = False := by simp
    cases u
    · have hmid : midS r ⟨false, n, si, he, q⟩ e = ⟨false, n, si, he, q⟩ := by simp [midS]
      rw [hmid]
      by_cases ha : r.raise ≤ e.lo
      · by_cases hb : n = 62500
        · subst hb
          simp +contextual -implicitDefEqProofs only [bg_eq, a52, hle, y0, e1, e2, e3, finS, zS, ha, z15, ruB, rh_no, Int.reduceLT, Int.reduceLE, Int.reduceAdd, Int.reduceSub, Int.reduceMul, Int.reduceNeg, Int.reduceToNat, Int.reduceEq, Int.reduceNe, Int.reduceTDiv, Int.reduceTMod, implies_true, putL, appN, appX, Eng.Fi, reduceCtorEq, exists_eq_left', exists_eq_left, if_true, if_false, List.replicate, Nat.reduceAdd, Nat.reduceSub, Nat.reduceMul, Nat.reduceLeDiff, Nat.reduceLT, Nat.reduceEqDiff]
        · simp +contextual -implicitDefEqProofs only [bg_eq, a52, hle, y0, e1, e2, e3, finS, zS, ha, hb, z15, ruB, rh_no, Int.reduceLT, Int.reduceLE, Int.reduceAdd, Int.reduceSub, Int.reduceMul, Int.reduceNeg, Int.reduceToNat, Int.reduceEq, Int.reduceNe, Int.reduceTDiv, Int.reduceTMod, implies_true, putL, appN, appX, Eng.Fi, reduceCtorEq, exists_eq_left', exists_eq_left, if_true, if_false, List.replicate, Nat.reduceAdd, Nat.reduceSub, Nat.reduceMul, Nat.reduceLeDiff, Nat.reduceLT, Nat.reduceEqDiff]
      · simp +contextual -implicitDefEqProofs only [bg_eq, a52, hle, y0, e1, e2, e3, finS, zS, ha, z15, ruB, rh_no, Int.reduceLT, Int.reduceLE, Int.reduceAdd, Int.reduceSub, Int.reduceMul, Int.reduceNeg, Int.reduceToNat, Int.reduceEq, Int.reduceNe, Int.reduceTDiv, Int.reduceTMod, implies_true, putL, appN, appX, Eng.Fi, reduceCtorEq, exists_eq_left', exists_eq_left, if_true, if_false, List.replicate, Nat.reduceAdd, Nat.reduceSub, Nat.reduceMul, Nat.reduceLeDiff, Nat.reduceLT, Nat.reduceEqDiff]
    · by_cases hc : r.clear ≤ e.hi
      · have hmid : midS r ⟨true, n, si, he, q⟩ e = ⟨true, n, si, he, -1⟩ := by simp [midS, hc]
        have hc' : (e.hi < r.clear) = False := by simp only [eq_iff_iff, iff_false]; omega
        rw [hmid]
        simp +contextual -implicitDefEqProofs only [bg_eq, a52, hle, y0, e1, e2, e3, finS, zS, hc, hc', z15, ruB, rh_no, Int.reduceLT, Int.reduceLE, Int.reduceAdd, Int.reduceSub, Int.reduceMul, Int.reduceNeg, Int.reduceToNat, Int.reduceEq, Int.reduceNe, Int.reduceTDiv, Int.reduceTMod, implies_true, putL, appN, appX, Eng.Fi, reduceCtorEq, exists_eq_left', exists_eq_left, if_true, if_false, List.replicate, Nat.reduceAdd, Nat.reduceSub, Nat.reduceMul, Nat.reduceLeDiff, Nat.reduceLT, Nat.reduceEqDiff]
      · have hc' : (e.hi < r.clear) = True := by simp only [eq_iff_iff, iff_true]; omega
        by_cases hq1 : q = -1
        · subst hq1
          by_cases hd : r.hold ≤ 0
          · have hmid : midS r ⟨true, n, si, he, -1⟩ e = ⟨false, n, 0, he, -1⟩ := by
              have : ¬ e.at' = -1 := by omega
              simp [midS, hc, hd, endS, this]
            rw [hmid]
            by_cases ha : r.raise ≤ e.lo
            · by_cases hb : n = 62500
              · subst hb
                simp +contextual -implicitDefEqProofs only [bg_eq, a52, hle, y0, e1, e2, e3, finS, zS, hc', hd, ha, x110, z15, ruB, rh_no, Int.reduceLT, Int.reduceLE, Int.reduceAdd, Int.reduceSub, Int.reduceMul, Int.reduceNeg, Int.reduceToNat, Int.reduceEq, Int.reduceNe, Int.reduceTDiv, Int.reduceTMod, implies_true, putL, appN, appX, Eng.Fi, reduceCtorEq, exists_eq_left', exists_eq_left, if_true, if_false, List.replicate, Nat.reduceAdd, Nat.reduceSub, Nat.reduceMul, Nat.reduceLeDiff, Nat.reduceLT, Nat.reduceEqDiff]
              · simp +contextual -implicitDefEqProofs only [bg_eq, a52, hle, y0, e1, e2, e3, finS, zS, hc', hd, ha, hb, x110, z15, ruB, rh_no, Int.reduceLT, Int.reduceLE, Int.reduceAdd, Int.reduceSub, Int.reduceMul, Int.reduceNeg, Int.reduceToNat, Int.reduceEq, Int.reduceNe, Int.reduceTDiv, Int.reduceTMod, implies_true, putL, appN, appX, Eng.Fi, reduceCtorEq, exists_eq_left', exists_eq_left, if_true, if_false, List.replicate, Nat.reduceAdd, Nat.reduceSub, Nat.reduceMul, Nat.reduceLeDiff, Nat.reduceLT, Nat.reduceEqDiff]
            · simp +contextual -implicitDefEqProofs only [bg_eq, a52, hle, y0, e1, e2, e3, finS, zS, hc', hd, ha, x110, z15, ruB, rh_no, Int.reduceLT, Int.reduceLE, Int.reduceAdd, Int.reduceSub, Int.reduceMul, Int.reduceNeg, Int.reduceToNat, Int.reduceEq, Int.reduceNe, Int.reduceTDiv, Int.reduceTMod, implies_true, putL, appN, appX, Eng.Fi, reduceCtorEq, exists_eq_left', exists_eq_left, if_true, if_false, List.replicate, Nat.reduceAdd, Nat.reduceSub, Nat.reduceMul, Nat.reduceLeDiff, Nat.reduceLT, Nat.reduceEqDiff]
          · have hmid : midS r ⟨true, n, si, he, -1⟩ e = ⟨true, n, si, he, e.at'⟩ := by
              simp [midS, hc, hd]
            rw [hmid]
            simp +contextual -implicitDefEqProofs only [bg_eq, a52, hle, y0, e1, e2, e3, finS, zS, hc', hd, z15, ruB, rh_no, Int.reduceLT, Int.reduceLE, Int.reduceAdd, Int.reduceSub, Int.reduceMul, Int.reduceNeg, Int.reduceToNat, Int.reduceEq, Int.reduceNe, Int.reduceTDiv, Int.reduceTMod, implies_true, putL, appN, appX, Eng.Fi, reduceCtorEq, exists_eq_left', exists_eq_left, if_true, if_false, List.replicate, Nat.reduceAdd, Nat.reduceSub, Nat.reduceMul, Nat.reduceLeDiff, Nat.reduceLT, Nat.reduceEqDiff]
        · by_cases hd : r.hold ≤ e.at' - q
          · have hmid : midS r ⟨true, n, si, he, q⟩ e = ⟨false, n, 0, he, -1⟩ := by simp [midS, hc, hq1, hd, endS]
            rw [hmid]
            by_cases ha : r.raise ≤ e.lo
            · by_cases hb : n = 62500
              · subst hb
                simp +contextual -implicitDefEqProofs only [bg_eq, a52, hle, y0, e1, e2, e3, finS, zS, hc', hq1, hd, ha, x110, z15, ruB, rh_no, Int.reduceLT, Int.reduceLE, Int.reduceAdd, Int.reduceSub, Int.reduceMul, Int.reduceNeg, Int.reduceToNat, Int.reduceEq, Int.reduceNe, Int.reduceTDiv, Int.reduceTMod, implies_true, putL, appN, appX, Eng.Fi, reduceCtorEq, exists_eq_left', exists_eq_left, if_true, if_false, List.replicate, Nat.reduceAdd, Nat.reduceSub, Nat.reduceMul, Nat.reduceLeDiff, Nat.reduceLT, Nat.reduceEqDiff]
              · simp +contextual -implicitDefEqProofs only [bg_eq, a52, hle, y0, e1, e2, e3, finS, zS, hc', hq1, hd, ha, hb, x110, z15, ruB, rh_no, Int.reduceLT, Int.reduceLE, Int.reduceAdd, Int.reduceSub, Int.reduceMul, Int.reduceNeg, Int.reduceToNat, Int.reduceEq, Int.reduceNe, Int.reduceTDiv, Int.reduceTMod, implies_true, putL, appN, appX, Eng.Fi, reduceCtorEq, exists_eq_left', exists_eq_left, if_true, if_false, List.replicate, Nat.reduceAdd, Nat.reduceSub, Nat.reduceMul, Nat.reduceLeDiff, Nat.reduceLT, Nat.reduceEqDiff]
            · simp +contextual -implicitDefEqProofs only [bg_eq, a52, hle, y0, e1, e2, e3, finS, zS, hc', hq1, hd, ha, x110, z15, ruB, rh_no, Int.reduceLT, Int.reduceLE, Int.reduceAdd, Int.reduceSub, Int.reduceMul, Int.reduceNeg, Int.reduceToNat, Int.reduceEq, Int.reduceNe, Int.reduceTDiv, Int.reduceTMod, implies_true, putL, appN, appX, Eng.Fi, reduceCtorEq, exists_eq_left', exists_eq_left, if_true, if_false, List.replicate, Nat.reduceAdd, Nat.reduceSub, Nat.reduceMul, Nat.reduceLeDiff, Nat.reduceLT, Nat.reduceEqDiff]
          · have hmid : midS r ⟨true, n, si, he, q⟩ e = ⟨true, n, si, he, q⟩ := by simp [midS, hc, hq1, hd]
            rw [hmid]
            simp +contextual -implicitDefEqProofs only [bg_eq, a52, hle, y0, e1, e2, e3, finS, zS, hc', hq1, hd, z15, ruB, rh_no, Int.reduceLT, Int.reduceLE, Int.reduceAdd, Int.reduceSub, Int.reduceMul, Int.reduceNeg, Int.reduceToNat, Int.reduceEq, Int.reduceNe, Int.reduceTDiv, Int.reduceTMod, implies_true, putL, appN, appX, Eng.Fi, reduceCtorEq, exists_eq_left', exists_eq_left, if_true, if_false, List.replicate, Nat.reduceAdd, Nat.reduceSub, Nat.reduceMul, Nat.reduceLeDiff, Nat.reduceLT, Nat.reduceEqDiff]
def c52f : List AV → Option AV
  | [.agg [.int .i64 ra, .int .i64 rb, .int .i64 rc, .int .i64 rd], .agg [.bool u, .int .i64 a, .int .i64 b, .int .i64 c, .int .i64 d], .agg [.int .i64 x, .int .i64 y, .int .i64 z]] => if sm x ∧ 0 ≤ x ∧ sm c ∧ sm d ∧ sm a then some (.tup [eS (nextR ⟨ra, rb, rc, rd⟩ ⟨u, a, b, c, d⟩ ⟨x, y, z⟩).1, I (nextR ⟨ra, rb, rc, rd⟩ ⟨u, a, b, c, d⟩ ⟨x, y, z⟩).2]) else none
  | _ => none
theorem g52 : Fn P 52 c52f := fun args v h => by
  unfold c52f at h; split at h
  · split at h
    · rename_i hc; cases h; exact k52 ⟨_, _, _, _⟩ ⟨_, _, _, _, _⟩ ⟨_, _, _⟩ hc.1 hc.2.1 hc.2.2.1 hc.2.2.2.1 hc.2.2.2.2
    · cases h
  · cases h
theorem x52 (r : Rl) (s : St) (e : Gt) (h : (sm e.at' ∧ 0 ≤ e.at' ∧ sm s.heard ∧ sm s.quiet ∧ sm s.num) = True) : c52f [.agg [I r.raise, I r.clear, I r.hold, I r.tmo], .agg [B s.up, I s.num, I s.since, I s.heard, I s.quiet], .agg [I e.at', I e.lo, I e.hi]] = some (.tup [eS (nextR r s e).1, I (nextR r s e).2]) := by
  simp only [c52f, h, if_true]

/-! CheckEvents of the reference -/
def S26 (l : List Gt) (n : Nat) : AState := ⟨[.vs (l.map eG), .any, I 0, I 0, I n, .any, .any, .any, .any, .any, .any, .any, .any, .any, .any, .any, .any, .any, .any, .any, .any, .any, .any, .any, .any, .any, .any, .any, .any, .any, .any, .any, .any, .any, .any, .any, .any, .any, .any, .any, .any], [], 0⟩
theorem k26 (l : List Gt) (hl : l.length ≤ 1099511627776) : FOk P 26 [.vs (l.map eG)] (.tup [I (chkX l).1, I (chkX l).2]) := by
  refine c26.fok (by simp only [subs, sub1, free_G]) (Cor.run (addC_good g51 (noC_good _)) (noHx_good _) hm ?_)
  by_cases h40 : l.length ≤ 40
  · have h1 : decide ((40 : Int) < (l.length : Int)) = false := by simp; omega
    have hv : chkX l = eachX 0 (-1) l := by simp only [chkX, h40, if_true]
    simp +contextual -implicitDefEqProofs only [bg_eq, a26, List.length_map, h1, ruB, rh_no, Int.reduceLT, Int.reduceLE, Int.reduceAdd, Int.reduceSub, Int.reduceMul, Int.reduceNeg, Int.reduceToNat, Int.reduceEq, Int.reduceNe, Int.reduceTDiv, Int.reduceTMod, implies_true, putL, appN, appX, Eng.Fi, reduceCtorEq, exists_eq_left', exists_eq_left, if_true, if_false, List.replicate, Nat.reduceAdd, Nat.reduceSub, Nat.reduceMul, Nat.reduceLeDiff, Nat.reduceLT, Nat.reduceEqDiff]
    rw [hv]
    refine Cor.lp (addC_good g51 (noC_good _)) (noHx_good _) hm (S26 l) (fun n => n ≤ l.length ∧ eachX 0 (-1) l = eachX n (prevT l n) (l.drop n)) (fun n => l.length - n) (a := 0) ⟨Nat.zero_le _, by simp [prevT]⟩ (Wkn.keep [0, 2, 3, 4] rfl) ?_
    intro f n ⟨hn, hf⟩ go
    rcases Nat.lt_or_ge n l.length with h | h
    · have e1 : decide ((n : Int) < (l.length : Int)) = true := by simp; omega
      have e2 : (l.map eG)[n]? = some (eG l[n]) := by simp [h]
      have e3 : IntKind.wrap .i64 ((n : Int) + 1) = ((n + 1 : Nat) : Int) := by rw [wrap64 (by omega) (by omega)]; rfl
      have e4 : l.drop n = l[n] :: l.drop (n + 1) := List.drop_eq_getElem_cons h
      have hp : prevT l (n + 1) = l[n].at' := by simp [prevT, h]
      rw [e4, eachX] at hf
      have hxe : xErr (prevT l n) l[n] = if evE l[n] = 0 then (if prevT l n < l[n].at' then 0 else 9) else evE l[n] := by
        simp only [xErr, firstE, unl]
        split
        · split <;> simp
        · rfl
      by_cases hev : evE l[n] = 0
      · cases n with
        | zero =>
          have h0 := (evE_zero hev).1.1
          have hx0 : xErr (prevT l 0) l[0] = 0 := by rw [hxe, if_pos hev, if_pos (by simp [prevT]; omega)]
          rw [hx0, if_pos rfl] at hf
          have z0 : ((0 : Int) < ((0 : Nat) : Int)) = False := by simp
          simp +contextual -implicitDefEqProofs only [S26, e1, e2, e3, x51, hev, z0, List.length_map, ruB, rh_no, Int.reduceLT, Int.reduceLE, Int.reduceAdd, Int.reduceSub, Int.reduceMul, Int.reduceNeg, Int.reduceToNat, Int.reduceEq, Int.reduceNe, Int.reduceTDiv, Int.reduceTMod, implies_true, putL, appN, appX, Eng.Fi, reduceCtorEq, exists_eq_left', exists_eq_left, if_true, if_false, List.replicate, Nat.reduceAdd, Nat.reduceSub, Nat.reduceMul, Nat.reduceLeDiff, Nat.reduceLT, Nat.reduceEqDiff]
          exact go _ 1 ⟨h, by rw [hf, hp]; rfl⟩ (by omega) (Wkn.keep [0, 2, 3, 4] rfl)
        | succ m =>
          have hm2 : m < l.length := by omega
          have e5 : (l.map eG)[m]? = some (eG l[m]) := by simp [hm2]
          have e6 : IntKind.wrap .i64 (((m + 1 : Nat) : Int) - 1) = (m : Int) := by rw [wrap64 (by omega) (by omega)]; omega
          have e7 : ((0 : Int) < ((m + 1 : Nat) : Int)) = True := by simp only [eq_iff_iff, iff_true]; omega
          have hp1 : prevT l (m + 1) = l[m].at' := by simp [prevT, hm2]
          rw [hxe, if_pos hev, hp1] at hf
          simp +contextual -implicitDefEqProofs only [S26, e1, e2, e3, e5, e6, e7, x51, hev, List.length_map, ruB, rh_no, Int.reduceLT, Int.reduceLE, Int.reduceAdd, Int.reduceSub, Int.reduceMul, Int.reduceNeg, Int.reduceToNat, Int.reduceEq, Int.reduceNe, Int.reduceTDiv, Int.reduceTMod, implies_true, putL, appN, appX, Eng.Fi, reduceCtorEq, exists_eq_left', exists_eq_left, if_true, if_false, List.replicate, Nat.reduceAdd, Nat.reduceSub, Nat.reduceMul, Nat.reduceLeDiff, Nat.reduceLT, Nat.reduceEqDiff]
          refine ⟨fun hle => ?_, fun hle => go _ (m + 2) ⟨h, ?_⟩ (by omega) (Wkn.keep [0, 2, 3, 4] rfl)⟩
          · rw [hf, if_neg (show ¬ l[m].at' < l[m + 1].at' by omega)]; rfl
          · rw [hf, if_pos (show l[m].at' < l[m + 1].at' by omega), hp]; rfl
      · rw [hxe, if_neg hev, if_neg hev] at hf
        simp +contextual -implicitDefEqProofs only [S26, e1, e2, e3, x51, hev, List.length_map, ruB, rh_no, Int.reduceLT, Int.reduceLE, Int.reduceAdd, Int.reduceSub, Int.reduceMul, Int.reduceNeg, Int.reduceToNat, Int.reduceEq, Int.reduceNe, Int.reduceTDiv, Int.reduceTMod, implies_true, putL, appN, appX, Eng.Fi, reduceCtorEq, exists_eq_left', exists_eq_left, if_true, if_false, List.replicate, Nat.reduceAdd, Nat.reduceSub, Nat.reduceMul, Nat.reduceLeDiff, Nat.reduceLT, Nat.reduceEqDiff]
        rw [hf]
    · have e1 : decide ((n : Int) < (l.length : Int)) = false := by simp; omega
      rw [List.drop_eq_nil_of_le h] at hf
      simp +contextual -implicitDefEqProofs only [S26, e1, List.length_map, ruB, rh_no, Int.reduceLT, Int.reduceLE, Int.reduceAdd, Int.reduceSub, Int.reduceMul, Int.reduceNeg, Int.reduceToNat, Int.reduceEq, Int.reduceNe, Int.reduceTDiv, Int.reduceTMod, implies_true, putL, appN, appX, Eng.Fi, reduceCtorEq, exists_eq_left', exists_eq_left, if_true, if_false, List.replicate, Nat.reduceAdd, Nat.reduceSub, Nat.reduceMul, Nat.reduceLeDiff, Nat.reduceLT, Nat.reduceEqDiff]
      rw [hf]; rfl
  · have h1 : decide ((40 : Int) < (l.length : Int)) = true := by simp; omega
    simp +contextual -implicitDefEqProofs only [bg_eq, a26, List.length_map, h1, chkX, h40, ruB, rh_no, Int.reduceLT, Int.reduceLE, Int.reduceAdd, Int.reduceSub, Int.reduceMul, Int.reduceNeg, Int.reduceToNat, Int.reduceEq, Int.reduceNe, Int.reduceTDiv, Int.reduceTMod, implies_true, putL, appN, appX, Eng.Fi, reduceCtorEq, exists_eq_left', exists_eq_left, if_true, if_false, List.replicate, Nat.reduceAdd, Nat.reduceSub, Nat.reduceMul, Nat.reduceLeDiff, Nat.reduceLT, Nat.reduceEqDiff]
end Sh
