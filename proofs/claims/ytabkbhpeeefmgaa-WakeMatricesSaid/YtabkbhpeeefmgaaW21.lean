import Derived.Test.YtabkbhpeeefmgaaEngS9
import Derived.Test.YtabkbhpeeefmgaaW20
open Go Go.Proofs Eng
set_option maxRecDepth 100000
set_option linter.unusedSimpArgs false
set_option linter.unusedVariables false
def a138 : AC := .seq (.seq (.ops false [] [⟨some 10, .p (.mov), [.t 0], none⟩, ⟨some 11, .p (.lenS), [.t 10], none⟩, ⟨some 12, .load 1 false, [.t 2], none⟩, ⟨some 13, .p (.lenS), [.t 12], none⟩, ⟨some 14, .p (.binI .eql), [.t 11, .t 13], none⟩]) (.cond (.t 14) (.seq (.seq (.ops false [] [⟨some 15, .load 1 false, [.t 3], none⟩, ⟨some 16, .p (.lenS), [.t 15], none⟩, ⟨some 17, .p (.binI .eql), [.t 16, .c (.int .i64 0)], none⟩, ⟨some 18, .p (.mov), [.t 17], none⟩, ⟨some 19, .p (.mov), [.t 1], some (18, false)⟩, ⟨some 20, .load 1 false, [.t 4], some (18, false)⟩, ⟨some 21, .p (.binI .lss), [.t 19, .t 20], some (18, false)⟩, ⟨some 22, .p (.pick), [.t 18, .c (.bool true), .t 21], none⟩]) (.cond (.t 22) (.ops false [] [⟨some 23, .p (.mov), [.t 1], none⟩, ⟨none, .store 1 false, [.t 3, .c (.nilslice)], none⟩, ⟨none, .store 1 false, [.t 4, .t 23], none⟩]) (.skip))) (.seq (.seq (.ops false [] [⟨some 24, .p (.mov), [.t 1], none⟩, ⟨some 25, .load 1 false, [.t 4], none⟩, ⟨some 26, .p (.binI .eql), [.t 24, .t 25], none⟩]) (.cond (.t 26) (.ops true [] [⟨some 27, .load 1 false, [.t 3], none⟩, ⟨some 28, .p (.mov), [.t 0], none⟩, ⟨some 29, .call 139, [.t 28], none⟩, ⟨some 30, .fbs 1, [.t 29], none⟩, ⟨some 31, .app 38 1 24, [.t 27, .t 30], none⟩, ⟨none, .store 1 false, [.t 3, .t 31], none⟩]) (.skip))) (.ret))) (.skip))) (.seq (.ops false [] [⟨some 32, .load 1 false, [.t 2], none⟩, ⟨some 33, .p (.mov), [.t 0], none⟩, ⟨some 34, .p (.lenS), [.t 33], none⟩, ⟨some 35, .p (.iaddrS 1), [.t 32, .t 34], none⟩, ⟨some 36, .load 1 false, [.t 35], none⟩, ⟨some 37, .p (.lenS), [.t 36], none⟩, ⟨some 38, .p (.mov), [.c (.int .i64 0)], none⟩]) (.block 0 (.loop (.seq (.ops false [] [⟨some 39, .p (.binI .lss), [.t 38, .t 37], none⟩]) (.seq (.cond (.t 39) (.skip) (.exit 0)) (.seq (.block 1 (.seq (.ops false [] [⟨some 40, .p (.mov), [.t 38], none⟩, ⟨some 41, .p (.iaddrS 1), [.t 36, .t 38], none⟩, ⟨some 42, .load 1 false, [.t 41], none⟩, ⟨some 8, .p (.mov), [.t 40], none⟩, ⟨some 9, .p (.mov), [.t 42], none⟩]) (.seq (.ops false [] [⟨some 43, .p (.mov), [.t 0], none⟩, ⟨some 44, .p (.mov), [.t 8], none⟩, ⟨some 45, .call 140, [.t 43, .t 44], none⟩, ⟨some 46, .p (.notB), [.t 45], none⟩]) (.cond (.t 46) (.ops true [(0, 5)] [⟨some 47, .load 1 false, [.t 5], none⟩, ⟨some 48, .p (.mov), [.t 0], none⟩, ⟨some 49, .call 141, [.t 48], none⟩, ⟨some 50, .p (.mov), [.t 8], none⟩, ⟨some 51, .fbs 1, [.t 50], none⟩, ⟨some 52, .app 3 1 8, [.t 49, .t 51], none⟩, ⟨some 53, .p (.mov), [.t 1], none⟩, ⟨some 54, .p (.mov), [.t 9], none⟩, ⟨some 55, .p (.binI .add), [.t 53, .t 54], none⟩, ⟨some 56, .callv, [.t 47, .t 52, .t 55], none⟩]) (.skip))))) (.ops false [] [⟨some 57, .p (.binI .add), [.t 38, .c (.int .i64 1)], none⟩, ⟨some 38, .p (.mov), [.t 57], none⟩])))))))
theorem c138 : FnC Try.prog 138 58 a138 [] := ⟨Try.call138, _, _, Try.func138, rfl, by kernel_rfl, by kernel_rfl, rfl⟩
namespace Wa
abbrev caps (m : List L) : List AV := [.vp [.vs (m.map eL)] 0 0, .ptr 0 1 0 0, .ptr 1 1 0 0, .ptr 2 1 0 0]
def glt : GS → Prop
  | none => True
  | some (l, _) => l.length < 100000
theorem l_grow0 (m : List L) (p : L) (x : GS) (N : Nat) (hp : p.length = m.length) (hm6 : 0 < m.length ∧ m.length ≤ 6) (hx : gok N x) (hl : glt x) :
    LOk P 138 ([.vs (p.map eI), I (cst m p)] ++ caps m) (Jg m x) N (.tup []) (Jg m (stepG m (x, N) p).1) (stepG m (x, N) p).2 := by
  have yc := x_CloneI p (by simp only [eq_iff_iff, iff_true]; exact ⟨fun e => by rw [e] at hp; simp at hp; omega, by omega⟩)
  have e1 : ((p.length : Int) = (m.length : Int)) = True := by simp [hp]
  have hfm := fun φ => free_L φ m
  have hfp := fun φ => free_I φ p
  refine c138.lok (Cor.post (Cor.run (addC_good g_CloneI (noC_good _)) (noHx_good _) hm ?_))
  generalize hcc : cst m p = cc at *
  have o1 : (1 ≤ maxLen) = True := mx (by omega)
  cases x with
  | none =>
    have hx : 3 ≤ N := hx
    obtain ⟨M, rfl⟩ : ∃ M, N = M + 3 := ⟨N - 3, by omega⟩
    simp only [stepG, hcc]
    simp +contextual -implicitDefEqProofs (maxSteps := 2000000) only [bg_eq, a138, List.length_map, e1, yc, FinL, Jg, rs_nil, rs_t, rs_f, ag_nils, ag_sl, ag_vs, ag_str, ag_ptr, ag_nilp, ag_vp, ag_fun, o1, Nat.add_assoc, ruH, ruB, Int.reduceLT, Int.reduceLE, Int.reduceAdd, Int.reduceSub, Int.reduceMul, Int.reduceNeg, Int.reduceToNat, Int.reduceEq, Int.reduceNe, Int.reduceTDiv, Int.reduceTMod, implies_true, putL, appN, appX, appC, Eng.Fi, reduceCtorEq, exists_eq_left', exists_eq_left, if_true, if_false, List.replicate, Nat.reduceAdd, Nat.reduceSub, Nat.reduceMul, Nat.reduceLeDiff, Nat.reduceLT, Nat.reduceEqDiff]
    refine ⟨⟨[.any, .any, .any, .any, .any, .any, .any, .any, .any, .any, .any, .any, .any, .any, .any, .any, .any, .any, .any, .any, .any, .any, .any, .any, .any, .any, .any, .any, .any, .any, .any, .any, .any, .any, .any, .any, .any, .any, .any, .any, .any, .any, .any, .any, .any, .any, .any, .any, .any, .any, .any, .any, .any, .any, .any, .any, .any, .any], Jg m (some ([p], cc, M + 3, M + 3)), M + 4⟩, Wkn.to ⟨M + 3, [(M + 5, M + 3)], [], M + 4, []⟩ rfl ?_ ?_, _, rfl, rfl, rfl, rfl⟩
    · simp [Wk.ok, idg, Wk.isK, Wk.isF, nodupN, memN, assoc]
    · simp [Wk.st, keepT, memN, Wk.fate, Wk.fate0, assoc, getE, Wk.hp, ABlk.sub, sub1, subs, Jg, hfm, hfp]
  | some y =>
    obtain ⟨l, c, id, g⟩ := y
    have hx : 3 ≤ N ∧ (3 ≤ id ∧ id < N) ∧ (3 ≤ g ∧ g < N) ∧ 0 < l.length ∧ l.length ≤ 100000 := hx
    have hl : l.length < 100000 := hl
    obtain ⟨M, rfl⟩ : ∃ M, N = M + 3 := ⟨N - 3, by omega⟩
    have l0 : ((l.length : Int) = 0) = False := eq_false (by omega)
    have i0 : (id = 0) = False := eq_false (by omega)
    have i1 : (id = 1) = False := eq_false (by omega)
    have i2 : (id = 2) = False := eq_false (by omega)
    have j2 : (2 = id) = False := eq_false (by omega)
    have j1 : (1 = id) = False := eq_false (by omega)
    have j0 : (0 = id) = False := eq_false (by omega)
    have g0 : (g = 0) = False := eq_false (by omega)
    have g1 : (g = 1) = False := eq_false (by omega)
    have g2 : (g = 2) = False := eq_false (by omega)
    have k2 : (2 = g) = False := eq_false (by omega)
    have k1 : (1 = g) = False := eq_false (by omega)
    have k0 : (0 = g) = False := eq_false (by omega)
    have hfl := fun φ => free_L φ l
    have lid : id < M + 3 := hx.2.1.2
    have lgr : g < M + 3 := hx.2.2.1.2
    have m1 : (l.length + 1 ≤ maxLen) = True := mx (by omega)
    have m2 : ((l.length + 1) * 24 ≤ 140737488355328) = True := eq_true (by omega)
    have t0 : (l.map eL).length = l.length := by simp
    by_cases c1 : cc < c
    · have c1' := eq_true c1
      simp only [stepG, hcc, if_pos c1]
      simp +contextual -implicitDefEqProofs (maxSteps := 2000000) only [bg_eq, a138, List.length_map, e1, yc, FinL, Jg, rs_nil, rs_t, rs_f, ag_nils, ag_sl, ag_vs, ag_str, ag_ptr, ag_nilp, ag_vp, ag_fun, o1, l0, c1', i0, i1, i2, j0, j1, j2, g0, g1, g2, k0, k1, k2, Nat.add_assoc, not_false_eq_true, ruH, ruB, Int.reduceLT, Int.reduceLE, Int.reduceAdd, Int.reduceSub, Int.reduceMul, Int.reduceNeg, Int.reduceToNat, Int.reduceEq, Int.reduceNe, Int.reduceTDiv, Int.reduceTMod, implies_true, putL, appN, appX, appC, Eng.Fi, reduceCtorEq, exists_eq_left', exists_eq_left, if_true, if_false, List.replicate, Nat.reduceAdd, Nat.reduceSub, Nat.reduceMul, Nat.reduceLeDiff, Nat.reduceLT, Nat.reduceEqDiff]
      refine ⟨⟨[.any, .any, .any, .any, .any, .any, .any, .any, .any, .any, .any, .any, .any, .any, .any, .any, .any, .any, .any, .any, .any, .any, .any, .any, .any, .any, .any, .any, .any, .any, .any, .any, .any, .any, .any, .any, .any, .any, .any, .any, .any, .any, .any, .any, .any, .any, .any, .any, .any, .any, .any, .any, .any, .any, .any, .any, .any, .any], Jg m (some ([p], cc, M + 3, M + 3)), M + 4⟩, Wkn.trans (Wkn.sub (hp2 := [⟨M + 5, M + 5, .rows 38 1 [.vs (p.map eI)]⟩, ⟨2, 2, .rows 197 1 [GF m]⟩, ⟨1, 1, .rows 3 1 [I cc]⟩, ⟨0, 0, .rows 66 1 [.slice (M + 5) 1 0 1]⟩]) ?_) (Wkn.to ⟨M + 3, [(M + 5, M + 3)], [], M + 4, []⟩ rfl ?_ ?_), _, rfl, rfl, rfl, rfl⟩
      · intro e he
        simp only [List.mem_cons, List.not_mem_nil, or_false] at he ⊢
        rcases he with rfl | rfl | rfl | rfl <;> simp
      · simp [Wk.ok, idg, Wk.isK, Wk.isF, nodupN, memN, assoc]
      · simp [Wk.st, keepT, memN, Wk.fate, Wk.fate0, assoc, getE, Wk.hp, ABlk.sub, sub1, subs, Jg, hfm, hfp]
    · have c1' := eq_false c1
      by_cases c2 : cc = c
      · subst c2
        simp only [stepG, hcc, if_neg c1, if_true]
        simp +contextual -implicitDefEqProofs (maxSteps := 2000000) only [bg_eq, a138, List.length_map, e1, yc, FinL, Jg, rs_nil, rs_t, rs_f, ag_nils, ag_sl, ag_vs, ag_str, ag_ptr, ag_nilp, ag_vp, ag_fun, o1, l0, c1', i0, i1, i2, j0, j1, j2, g0, g1, g2, k0, k1, k2, m1, m2, t0, Nat.add_assoc, Nat.le_refl, not_false_eq_true, ruH, ruB, Int.reduceLT, Int.reduceLE, Int.reduceAdd, Int.reduceSub, Int.reduceMul, Int.reduceNeg, Int.reduceToNat, Int.reduceEq, Int.reduceNe, Int.reduceTDiv, Int.reduceTMod, implies_true, putL, appN, appX, appC, Eng.Fi, reduceCtorEq, exists_eq_left', exists_eq_left, if_true, if_false, List.replicate, Nat.reduceAdd, Nat.reduceSub, Nat.reduceMul, Nat.reduceLeDiff, Nat.reduceLT, Nat.reduceEqDiff]
        refine ⟨⟨[.any, .any, .any, .any, .any, .any, .any, .any, .any, .any, .any, .any, .any, .any, .any, .any, .any, .any, .any, .any, .any, .any, .any, .any, .any, .any, .any, .any, .any, .any, .any, .any, .any, .any, .any, .any, .any, .any, .any, .any, .any, .any, .any, .any, .any, .any, .any, .any, .any, .any, .any, .any, .any, .any, .any, .any, .any, .any], Jg m (some (l ++ [p], cc, M + 3, g)), M + 4⟩, Wkn.trans (Wkn.sub (hp2 := [⟨M + 3, g, .rows 38 1 (l.map eL ++ [.vs (p.map eI)])⟩, ⟨2, 2, .rows 197 1 [GF m]⟩, ⟨1, 1, .rows 3 1 [I cc]⟩, ⟨0, 0, .rows 66 1 [.slice (M + 3) 1 0 (l.length + 1)]⟩]) ?_) (Wkn.to ⟨M + 3, [(M + 3, M + 3)], [], M + 4, []⟩ rfl ?_ ?_), _, rfl, rfl, ?_, rfl⟩
        · intro e he
          simp only [List.mem_cons, List.not_mem_nil, or_false] at he ⊢
          rcases he with rfl | rfl | rfl | rfl <;> simp
        · simp [Wk.ok, idg, Wk.isK, Wk.isF, nodupN, memN, assoc, lgr, g0, g1, g2, k0, k1, k2]
        · simp [Wk.st, keepT, memN, Wk.fate, Wk.fate0, assoc, getE, Wk.hp, ABlk.sub, sub1, subs, Jg, hfm, hfp, hfl, subs_append, lgr]
        · simp [Jg]
      · have c2' := eq_false c2
        simp only [stepG, hcc, if_neg c1, if_neg c2]
        simp +contextual -implicitDefEqProofs (maxSteps := 2000000) only [bg_eq, a138, List.length_map, e1, yc, FinL, Jg, rs_nil, rs_t, rs_f, ag_nils, ag_sl, ag_vs, ag_str, ag_ptr, ag_nilp, ag_vp, ag_fun, o1, l0, c1', c2', i0, i1, i2, j0, j1, j2, g0, g1, g2, k0, k1, k2, Nat.add_assoc, not_false_eq_true, ruH, ruB, Int.reduceLT, Int.reduceLE, Int.reduceAdd, Int.reduceSub, Int.reduceMul, Int.reduceNeg, Int.reduceToNat, Int.reduceEq, Int.reduceNe, Int.reduceTDiv, Int.reduceTMod, implies_true, putL, appN, appX, appC, Eng.Fi, reduceCtorEq, exists_eq_left', exists_eq_left, if_true, if_false, List.replicate, Nat.reduceAdd, Nat.reduceSub, Nat.reduceMul, Nat.reduceLeDiff, Nat.reduceLT, Nat.reduceEqDiff]
        exact ⟨_, Wkn.rfl, _, rfl, rfl, rfl, rfl⟩
end Wa
