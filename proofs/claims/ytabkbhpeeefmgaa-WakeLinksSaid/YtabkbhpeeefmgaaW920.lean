import Derived.Test.YtabkbhpeeefmgaaEngS9
import Derived.Test.YtabkbhpeeefmgaaW919
open Go Go.Proofs Eng
set_option maxRecDepth 100000
set_option linter.unusedSimpArgs false
set_option linter.unusedVariables false
def a7 : AC := .seq (.ops false [] [⟨some 6, .p (.mov), [.c (.bool false)], none⟩]) (.seq (.seq (.ops false [] [⟨some 14, .call 13, [], none⟩, ⟨some 15, .p (.notB), [.t 14], none⟩]) (.cond (.t 15) (.seq (.ops false [] [⟨some 6, .p (.mov), [.c (.bool false)], none⟩]) (.ret)) (.skip))) (.seq (.seq (.ops false [] [⟨some 16, .p (.mov), [.t 0], none⟩, ⟨some 17, .call 41, [.t 16], none⟩, ⟨some 18, .p (.notB), [.t 17], none⟩, ⟨some 19, .p (.mov), [.t 18], none⟩, ⟨some 20, .p (.mov), [.t 1], some (19, false)⟩, ⟨some 21, .call 41, [.t 20], some (19, false)⟩, ⟨some 22, .p (.notB), [.t 21], some (19, false)⟩, ⟨some 23, .p (.pick), [.t 19, .c (.bool true), .t 22], none⟩, ⟨some 24, .p (.mov), [.t 23], none⟩, ⟨some 25, .p (.mov), [.t 0], some (24, false)⟩, ⟨some 26, .p (.lenS), [.t 25], some (24, false)⟩, ⟨some 27, .p (.mov), [.t 1], some (24, false)⟩, ⟨some 28, .p (.lenS), [.t 27], some (24, false)⟩, ⟨some 29, .p (.binI .add), [.t 26, .t 28], some (24, false)⟩, ⟨some 30, .p (.binI .gtr), [.t 29, .c (.int .i64 5)], some (24, false)⟩, ⟨some 31, .p (.mov), [.t 30], some (24, false)⟩, ⟨some 32, .p (.mov), [.t 0], some (31, true)⟩, ⟨some 33, .p (.mov), [.t 1], some (31, true)⟩, ⟨some 34, .p (.mov), [.t 2], some (31, true)⟩, ⟨some 35, .call 42, [.t 32, .t 33, .t 34], some (31, true)⟩, ⟨some 36, .p (.binI .eql), [.t 35, .c (.int .i64 0)], some (31, true)⟩, ⟨some 37, .p (.pick), [.t 31, .t 36, .c (.bool false)], some (24, false)⟩, ⟨some 38, .p (.pick), [.t 24, .c (.bool true), .t 37], none⟩]) (.cond (.t 38) (.seq (.ops false [] [⟨some 6, .p (.mov), [.c (.bool true)], none⟩]) (.ret)) (.skip))) (.seq (.ops false [] [⟨some 40, .p (.mov), [.t 0], none⟩, ⟨some 41, .call 22, [.t 40], none⟩, ⟨some 42, .p (.mov), [.t 1], none⟩, ⟨some 43, .call 22, [.t 42], none⟩, ⟨some 44, .p (.mov), [.t 2], none⟩, ⟨some 45, .call 43, [.t 41, .t 43, .t 44], none⟩, ⟨some 39, .p (.mov), [.t 45], none⟩, ⟨some 46, .p (.ext 0), [.t 39], none⟩, ⟨some 47, .p (.ext 1), [.t 39], none⟩, ⟨some 7, .p (.mov), [.t 46], none⟩, ⟨some 8, .p (.mov), [.t 47], none⟩]) (.seq (.ops false [] [⟨some 49, .p (.mov), [.t 0], none⟩, ⟨some 50, .call 22, [.t 49], none⟩, ⟨some 51, .p (.mov), [.t 1], none⟩, ⟨some 52, .call 22, [.t 51], none⟩, ⟨some 53, .p (.mov), [.t 2], none⟩, ⟨some 54, .call 21, [.t 50, .t 52, .t 53], none⟩, ⟨some 48, .p (.mov), [.t 54], none⟩, ⟨some 55, .p (.ext 0), [.t 48], none⟩, ⟨some 56, .p (.ext 1), [.t 48], none⟩, ⟨some 9, .p (.mov), [.t 55], none⟩, ⟨some 10, .p (.mov), [.t 56], none⟩]) (.seq (.seq (.ops false [] [⟨some 57, .p (.mov), [.t 0], none⟩, ⟨some 58, .p (.mov), [.t 1], none⟩, ⟨some 59, .p (.mov), [.t 2], none⟩, ⟨some 60, .call 42, [.t 57, .t 58, .t 59], none⟩, ⟨some 11, .p (.mov), [.t 60], none⟩]) (.seq (.ops false [] [⟨some 61, .p (.mov), [.t 11], none⟩, ⟨some 62, .p (.binI .neq), [.t 61, .c (.int .i64 0)], none⟩]) (.cond (.t 62) (.seq (.ops false [] [⟨some 63, .p (.mov), [.t 8], none⟩, ⟨some 64, .p (.mov), [.t 11], none⟩, ⟨some 65, .p (.binI .eql), [.t 63, .t 64], none⟩, ⟨some 66, .p (.mov), [.t 65], none⟩, ⟨some 67, .p (.mov), [.t 10], some (66, true)⟩, ⟨some 68, .p (.mov), [.t 11], some (66, true)⟩, ⟨some 69, .p (.binI .eql), [.t 67, .t 68], some (66, true)⟩, ⟨some 70, .p (.pick), [.t 66, .t 69, .c (.bool false)], none⟩, ⟨some 71, .p (.mov), [.t 70], none⟩, ⟨some 72, .p (.mov), [.t 7], some (71, true)⟩, ⟨some 73, .p (.lenS), [.t 72], some (71, true)⟩, ⟨some 74, .p (.mov), [.t 9], some (71, true)⟩, ⟨some 75, .p (.lenS), [.t 74], some (71, true)⟩, ⟨some 76, .p (.binI .add), [.t 73, .t 75], some (71, true)⟩, ⟨some 77, .p (.binI .eql), [.t 76, .c (.int .i64 0)], some (71, true)⟩, ⟨some 78, .p (.pick), [.t 71, .t 77, .c (.bool false)], none⟩, ⟨some 6, .p (.mov), [.t 78], none⟩]) (.ret)) (.skip)))) (.seq (.ops false [] [⟨some 79, .p (.mov), [.t 0], none⟩, ⟨some 80, .p (.mov), [.t 1], none⟩, ⟨some 81, .p (.mov), [.t 2], none⟩, ⟨some 82, .call 44, [.t 79, .t 80, .t 81], none⟩, ⟨some 12, .p (.mov), [.t 82], none⟩]) (.seq (.seq (.ops false [] [⟨some 83, .p (.mov), [.t 8], none⟩, ⟨some 84, .p (.binI .neq), [.t 83, .c (.int .i64 0)], none⟩, ⟨some 85, .p (.mov), [.t 84], none⟩, ⟨some 86, .p (.mov), [.t 7], some (85, false)⟩, ⟨some 87, .p (.lenS), [.t 86], some (85, false)⟩, ⟨some 88, .p (.mov), [.t 12], some (85, false)⟩, ⟨some 89, .p (.lenS), [.t 88], some (85, false)⟩, ⟨some 90, .p (.binI .neq), [.t 87, .t 89], some (85, false)⟩, ⟨some 91, .p (.pick), [.t 85, .c (.bool true), .t 90], none⟩]) (.cond (.t 91) (.seq (.ops false [] [⟨some 6, .p (.mov), [.c (.bool false)], none⟩]) (.ret)) (.skip))) (.seq (.seq (.ops false [] [⟨some 13, .p (.mov), [.c (.int .i64 0)], none⟩]) (.block 0 (.loop (.seq (.seq (.ops false [] [⟨some 92, .p (.mov), [.t 13], none⟩, ⟨some 93, .p (.mov), [.t 12], none⟩, ⟨some 94, .p (.lenS), [.t 93], none⟩, ⟨some 95, .p (.binI .lss), [.t 92, .t 94], none⟩]) (.cond (.t 95) (.skip) (.exit 0))) (.seq (.block 1 (.seq (.ops true [] [⟨some 98, .p (.mov), [.t 7], none⟩, ⟨some 99, .p (.mov), [.t 13], none⟩, ⟨some 100, .p (.iaddrS 1), [.t 98, .t 99], none⟩, ⟨some 101, .load 1 false, [.t 100], none⟩, ⟨some 102, .p (.mov), [.t 12], none⟩, ⟨some 103, .p (.mov), [.t 13], none⟩, ⟨some 104, .p (.iaddrS 1), [.t 102, .t 103], none⟩, ⟨some 105, .load 1 false, [.t 104], none⟩, ⟨some 106, .call 39, [.t 101, .t 105], none⟩, ⟨some 107, .p (.notB), [.t 106], none⟩]) (.cond (.t 107) (.seq (.ops false [] [⟨some 6, .p (.mov), [.c (.bool false)], none⟩]) (.ret)) (.skip)))) (.ops false [] [⟨some 96, .p (.mov), [.t 13], none⟩, ⟨some 97, .p (.binI .add), [.t 96, .c (.int .i64 1)], none⟩, ⟨some 13, .p (.mov), [.t 97], none⟩])))))) (.seq (.ops false [] [⟨some 108, .p (.mov), [.t 10], none⟩, ⟨some 109, .p (.binI .eql), [.t 108, .c (.int .i64 0)], none⟩, ⟨some 110, .p (.mov), [.t 109], none⟩, ⟨some 111, .p (.mov), [.t 9], some (110, true)⟩, ⟨some 112, .p (.mov), [.t 0], some (110, true)⟩, ⟨some 113, .p (.mov), [.t 1], some (110, true)⟩, ⟨some 114, .p (.mov), [.t 2], some (110, true)⟩, ⟨some 115, .call 45, [.t 112, .t 113, .t 114], some (110, true)⟩, ⟨some 116, .call 39, [.t 111, .t 115], some (110, true)⟩, ⟨some 117, .p (.pick), [.t 110, .t 116, .c (.bool false)], none⟩, ⟨some 6, .p (.mov), [.t 117], none⟩]) (.ret))))))))))
theorem c7 : FnC Try.prog 7 118 a7 [.tmp 6] := ⟨Try.call7, _, _, Try.func7, rfl, by kernel_rfl, by kernel_rfl, rfl⟩
def a45 : AC := .seq (.ops false [] [⟨some 6, .p (.mov), [.c (.nilslice)], none⟩]) (.seq (.ops false [] [⟨some 7, .p (.mov), [.c (.nilslice)], none⟩]) (.seq (.seq (.ops false [] [⟨some 11, .p (.mov), [.t 0], none⟩, ⟨some 12, .p (.lenS), [.t 11], none⟩, ⟨some 13, .p (.binI .eql), [.t 12, .c (.int .i64 0)], none⟩]) (.cond (.t 13) (.seq (.ops false [] [⟨some 14, .p (.mov), [.t 7], none⟩, ⟨some 6, .p (.mov), [.t 14], none⟩]) (.ret)) (.skip))) (.seq (.ops false [] [⟨some 16, .p (.mov), [.t 0], none⟩, ⟨some 17, .p (.mov), [.t 1], none⟩, ⟨some 18, .p (.mov), [.t 2], none⟩, ⟨some 19, .call 44, [.t 16, .t 17, .t 18], none⟩, ⟨some 20, .call 38, [.t 19], none⟩, ⟨some 15, .p (.mov), [.t 20], none⟩, ⟨some 21, .p (.ext 0), [.t 15], none⟩, ⟨some 22, .p (.ext 1), [.t 15], none⟩, ⟨some 8, .p (.mov), [.t 21], none⟩, ⟨some 9, .p (.mov), [.t 22], none⟩]) (.seq (.seq (.ops false [] [⟨some 10, .p (.mov), [.c (.int .i64 0)], none⟩]) (.block 0 (.loop (.seq (.seq (.ops false [] [⟨some 23, .p (.mov), [.t 10], none⟩, ⟨some 24, .p (.mov), [.t 0], none⟩, ⟨some 25, .p (.lenS), [.t 24], none⟩, ⟨some 26, .p (.binI .lss), [.t 23, .t 25], none⟩]) (.cond (.t 26) (.skip) (.exit 0))) (.seq (.block 1 (.seq (.ops false [] [⟨some 29, .p (.mov), [.t 8], none⟩, ⟨some 30, .p (.iaddrS 1), [.t 29, .c (.int .i64 0)], none⟩, ⟨some 31, .load 1 false, [.t 30], none⟩, ⟨some 32, .p (.mov), [.t 10], none⟩, ⟨some 33, .p (.iaddrS 1), [.t 31, .t 32], none⟩, ⟨some 34, .load 1 false, [.t 33], none⟩, ⟨some 35, .p (.mov), [.t 1], none⟩, ⟨some 36, .p (.lenS), [.t 35], none⟩, ⟨some 37, .p (.binI .lss), [.t 34, .t 36], none⟩]) (.cond (.t 37) (.ops false [] [⟨some 38, .p (.mov), [.t 7], none⟩, ⟨some 39, .p (.mov), [.t 8], none⟩, ⟨some 40, .p (.iaddrS 1), [.t 39, .c (.int .i64 0)], none⟩, ⟨some 41, .load 1 false, [.t 40], none⟩, ⟨some 42, .p (.mov), [.t 10], none⟩, ⟨some 43, .p (.iaddrS 1), [.t 41, .t 42], none⟩, ⟨some 44, .load 1 false, [.t 43], none⟩, ⟨some 45, .fbs 1, [.t 44], none⟩, ⟨some 46, .app 3 1 8, [.t 38, .t 45], none⟩, ⟨some 7, .p (.mov), [.t 46], none⟩]) (.ops false [] [⟨some 47, .p (.mov), [.t 7], none⟩, ⟨some 48, .fbs 1, [.c (.int .i64 (-1))], none⟩, ⟨some 49, .app 3 1 8, [.t 47, .t 48], none⟩, ⟨some 7, .p (.mov), [.t 49], none⟩])))) (.ops false [] [⟨some 27, .p (.mov), [.t 10], none⟩, ⟨some 28, .p (.binI .add), [.t 27, .c (.int .i64 1)], none⟩, ⟨some 10, .p (.mov), [.t 28], none⟩])))))) (.seq (.ops false [] [⟨some 50, .p (.mov), [.t 7], none⟩, ⟨some 6, .p (.mov), [.t 50], none⟩]) (.ret))))))
theorem c45 : FnC Try.prog 45 51 a45 [.tmp 6] := ⟨Try.call45, _, _, Try.func45, rfl, by kernel_rfl, by kernel_rfl, rfl⟩
namespace Wa
def S_yl (a b : List Vo) (c : List L) (q : Nat × L) : AState := ⟨[.vs (a.map eVo), .vs (b.map eVo), .any, .any, .any, .any, .any, gA 0 1 (q.2.map eI), .vs (c.map eL), .any, I q.1, .any, .any, .any, .any, .any, .any, .any, .any, .any, .any, .any, .any, .any, .any, .any, .any, .any, .any, .any, .any, .any, .any, .any, .any, .any, .any, .any, .any, .any, .any, .any, .any, .any, .any, .any, .any, .any, .any, .any, .any], gH 0 3 1 (q.2.map eI), 1⟩
set_option maxHeartbeats 4000000 in
theorem k_rLinks (a b : List Vo) (n : Int) (h : olE a b n = 0) : FOk P 45 [.vs (a.map eVo), .vs (b.map eVo), I n] (.vs ((liV a b n).map eI)) := by
  have hb := olE_z h
  have ha3 := hb.a.1
  have hb3 := hb.b.1
  have yc := x_rCosts a b n (by simp only [h])
  by_cases h0 : a.length = 0
  · have h0' : ((a.length : Int) = 0) = True := eq_true (by omega)
    rw [liV, if_pos h0]
    refine c45.fok (by simp only [subs, sub1, free_Vo]) (Cor.run (noC_good _) (noHx_good _) hm ?_)
    simp +contextual -implicitDefEqProofs (maxSteps := 2000000) only [bg_eq, a45, List.length_map, h0', List.map_nil, ruB, rh_no, Int.reduceLT, Int.reduceLE, Int.reduceAdd, Int.reduceSub, Int.reduceMul, Int.reduceNeg, Int.reduceToNat, Int.reduceEq, Int.reduceNe, Int.reduceTDiv, Int.reduceTMod, implies_true, putL, appN, appX, appC, Eng.Fi, reduceCtorEq, exists_eq_left', exists_eq_left, if_true, if_false, List.replicate, Nat.reduceAdd, Nat.reduceSub, Nat.reduceMul, Nat.reduceLeDiff, Nat.reduceLT, Nat.reduceEqDiff]
  · have h0' : ((a.length : Int) = 0) = False := eq_false (by omega)
    have hma := lkL_ok hb (by omega)
    have hcm : (cmV (lkL a b n)).2 = 0 := by rw [cmV_of hma]
    have y2 := x_rCheapest (lkL a b n) (by simp only [hcm])
    have hne := ch_ne (m := lkL a b n)
    have hhl := ch_head_len (m := lkL a b n)
    have hll : (lkL a b n).length = a.length + b.length := by rw [lkL, lkM_len]
    have hfl := fun φ => free_L φ (lkL a b n)
    rw [liV, if_neg h0]
    generalize lkL a b n = M at *
    generalize chV M = q at *
    obtain ⟨l, c⟩ := q
    simp only at hne hhl y2 ⊢
    have g0 : (l.map eL)[0]? = some (eL (l.headD [])) := by
      cases l with
      | nil => exact absurd rfl hne
      | cons p l => rfl
    have hfl2 := fun φ => free_L φ l
    generalize l.headD [] = p at *
    have hpa : a.length ≤ p.length := by omega
    refine c45.fok (by simp only [subs, sub1, free_Vo]) (Cor.run (addC_good g_rCheapest (addC_good g_rCosts (noC_good _))) (noHx_good _) hm ?_)
    simp +contextual -implicitDefEqProofs (maxSteps := 2000000) only [bg_eq, a45, List.length_map, h0', yc, y2, Int.natCast_zero, ruB, rh_no, Int.reduceLT, Int.reduceLE, Int.reduceAdd, Int.reduceSub, Int.reduceMul, Int.reduceNeg, Int.reduceToNat, Int.reduceEq, Int.reduceNe, Int.reduceTDiv, Int.reduceTMod, implies_true, putL, appN, appX, appC, Eng.Fi, reduceCtorEq, exists_eq_left', exists_eq_left, if_true, if_false, List.replicate, Nat.reduceAdd, Nat.reduceSub, Nat.reduceMul, Nat.reduceLeDiff, Nat.reduceLT, Nat.reduceEqDiff]
    refine Cor.lp (addC_good g_rCheapest (addC_good g_rCosts (noC_good _))) (noHx_good _) hm (S_yl a b l) (fun q => q.1 ≤ a.length ∧ q.2 = (p.take q.1).map (liG b.length)) (fun q => a.length - q.1) (a := (0, [])) ⟨Nat.zero_le _, rfl⟩ (Wkn.to ⟨0, [], [], 1, [0, 1, 7, 8, 10]⟩ rfl rfl (by simp [Wk.st, keepT, memN, Wk.fate, Wk.fate0, assoc, getE, Wk.hp, ABlk.sub, sub1, subs, free_Vo, free_L, S_yl, gA, gH])) ?_
    rintro f ⟨k, o⟩ ⟨hk, ho⟩ go
    simp only at hk ho
    have hol : o.length = k := by rw [ho]; simp; omega
    have hfo := fun φ => free_I φ o
    have m1 : (o.length + 1 ≤ maxLen) = True := mx (by omega)
    have m2 : ((o.length + 1) * 8 ≤ 140737488355328) = True := by simp only [eq_iff_iff, iff_true]; omega
    rcases Nat.lt_or_ge k a.length with hlt | hge
    · have e1 : ((k : Int) < (a.length : Int)) = True := eq_true (by omega)
      have e3 : IntKind.wrap .i64 ((k : Int) + 1) = ((k + 1 : Nat) : Int) := suc_w (by omega)
      have hkp : k < p.length := by omega
      have e2 : (p.map eI)[k]? = some (eI p[k]) := get_e eI p hkp
      have hnext : ∀ x, liG b.length p[k] = x → o ++ [x] = (p.take (k + 1)).map (liG b.length) := fun x hx => by rw [List.take_succ_eq_append_getElem hkp, List.map_append, ho, ← hx]; rfl
      unfold liG at hnext
      generalize p[k] = x at *
      by_cases hc : (b.length : Int) ≤ x
      · have hc' : (x < (b.length : Int)) = False := eq_false (by omega)
        rw [if_pos hc] at hnext
        cases o with
        | nil =>
          simp only [List.map_cons, List.map_nil, subs, List.cons.injEq] at hfo
          simp only [List.length_nil, List.length_cons, Nat.zero_add] at m1 m2
          simp +contextual -implicitDefEqProofs (maxSteps := 2000000) only [S_yl, gA, gH, e1, e2, e3, g0, hc', List.map_cons, List.map_nil, List.length_map, rs_nil, rs_t, rs_f, ag_nils, ag_sl, ag_vs, ag_str, ag_ptr, ag_nilp, ag_vp, ag_fun, m1, m2, Int.natCast_zero, ruB, rh_no, Int.reduceLT, Int.reduceLE, Int.reduceAdd, Int.reduceSub, Int.reduceMul, Int.reduceNeg, Int.reduceToNat, Int.reduceEq, Int.reduceNe, Int.reduceTDiv, Int.reduceTMod, implies_true, putL, appN, appX, appC, Eng.Fi, reduceCtorEq, exists_eq_left', exists_eq_left, if_true, if_false, List.replicate, Nat.reduceAdd, Nat.reduceSub, Nat.reduceMul, Nat.reduceLeDiff, Nat.reduceLT, Nat.reduceEqDiff]
          exact go _ (k + 1, [] ++ [-1]) ⟨hlt, hnext _ rfl⟩ (by simp only; omega) (Wkn.to ⟨0, [(1, 0)], [], 1, [0, 1, 7, 8, 10]⟩ rfl rfl (by simp [Wk.st, keepT, memN, Wk.fate, Wk.fate0, assoc, getE, Wk.hp, ABlk.sub, sub1, subs, free_Vo, free_I, free_L, S_yl, gA, gH, subs_append, hfo]))
          
        | cons x0 xr =>
          simp only [List.map_cons, List.map_nil, subs, List.cons.injEq] at hfo
          simp only [List.length_nil, List.length_cons, Nat.zero_add] at m1 m2
          simp +contextual -implicitDefEqProofs (maxSteps := 2000000) only [S_yl, gA, gH, e1, e2, e3, g0, hc', List.map_cons, List.map_nil, List.length_map, rs_nil, rs_t, rs_f, ag_nils, ag_sl, ag_vs, ag_str, ag_ptr, ag_nilp, ag_vp, ag_fun, m1, m2, Int.natCast_zero, ruB, rh_no, Int.reduceLT, Int.reduceLE, Int.reduceAdd, Int.reduceSub, Int.reduceMul, Int.reduceNeg, Int.reduceToNat, Int.reduceEq, Int.reduceNe, Int.reduceTDiv, Int.reduceTMod, implies_true, putL, appN, appX, appC, Eng.Fi, reduceCtorEq, exists_eq_left', exists_eq_left, if_true, if_false, List.replicate, Nat.reduceAdd, Nat.reduceSub, Nat.reduceMul, Nat.reduceLeDiff, Nat.reduceLT, Nat.reduceEqDiff]
          exact go _ (k + 1, (x0 :: xr) ++ [-1]) ⟨hlt, hnext _ rfl⟩ (by simp only; omega) (Wkn.to ⟨0, [(1, 0)], [], 1, [0, 1, 7, 8, 10]⟩ rfl rfl (by simp [Wk.st, keepT, memN, Wk.fate, Wk.fate0, assoc, getE, Wk.hp, ABlk.sub, sub1, subs, free_Vo, free_I, free_L, S_yl, gA, gH, subs_append, hfo]))
          
      · have hc' : (x < (b.length : Int)) = True := eq_true (by omega)
        rw [if_neg hc] at hnext
        cases o with
        | nil =>
          simp only [List.map_cons, List.map_nil, subs, List.cons.injEq] at hfo
          simp only [List.length_nil, List.length_cons, Nat.zero_add] at m1 m2
          simp +contextual -implicitDefEqProofs (maxSteps := 2000000) only [S_yl, gA, gH, e1, e2, e3, g0, hc', List.map_cons, List.map_nil, List.length_map, rs_nil, rs_t, rs_f, ag_nils, ag_sl, ag_vs, ag_str, ag_ptr, ag_nilp, ag_vp, ag_fun, m1, m2, Int.natCast_zero, ruB, rh_no, Int.reduceLT, Int.reduceLE, Int.reduceAdd, Int.reduceSub, Int.reduceMul, Int.reduceNeg, Int.reduceToNat, Int.reduceEq, Int.reduceNe, Int.reduceTDiv, Int.reduceTMod, implies_true, putL, appN, appX, appC, Eng.Fi, reduceCtorEq, exists_eq_left', exists_eq_left, if_true, if_false, List.replicate, Nat.reduceAdd, Nat.reduceSub, Nat.reduceMul, Nat.reduceLeDiff, Nat.reduceLT, Nat.reduceEqDiff]
          exact go _ (k + 1, [] ++ [x]) ⟨hlt, hnext _ rfl⟩ (by simp only; omega) (Wkn.to ⟨0, [(1, 0)], [], 1, [0, 1, 7, 8, 10]⟩ rfl rfl (by simp [Wk.st, keepT, memN, Wk.fate, Wk.fate0, assoc, getE, Wk.hp, ABlk.sub, sub1, subs, free_Vo, free_I, free_L, S_yl, gA, gH, subs_append, hfo]))
          
        | cons x0 xr =>
          simp only [List.map_cons, List.map_nil, subs, List.cons.injEq] at hfo
          simp only [List.length_nil, List.length_cons, Nat.zero_add] at m1 m2
          simp +contextual -implicitDefEqProofs (maxSteps := 2000000) only [S_yl, gA, gH, e1, e2, e3, g0, hc', List.map_cons, List.map_nil, List.length_map, rs_nil, rs_t, rs_f, ag_nils, ag_sl, ag_vs, ag_str, ag_ptr, ag_nilp, ag_vp, ag_fun, m1, m2, Int.natCast_zero, ruB, rh_no, Int.reduceLT, Int.reduceLE, Int.reduceAdd, Int.reduceSub, Int.reduceMul, Int.reduceNeg, Int.reduceToNat, Int.reduceEq, Int.reduceNe, Int.reduceTDiv, Int.reduceTMod, implies_true, putL, appN, appX, appC, Eng.Fi, reduceCtorEq, exists_eq_left', exists_eq_left, if_true, if_false, List.replicate, Nat.reduceAdd, Nat.reduceSub, Nat.reduceMul, Nat.reduceLeDiff, Nat.reduceLT, Nat.reduceEqDiff]
          exact go _ (k + 1, (x0 :: xr) ++ [x]) ⟨hlt, hnext _ rfl⟩ (by simp only; omega) (Wkn.to ⟨0, [(1, 0)], [], 1, [0, 1, 7, 8, 10]⟩ rfl rfl (by simp [Wk.st, keepT, memN, Wk.fate, Wk.fate0, assoc, getE, Wk.hp, ABlk.sub, sub1, subs, free_Vo, free_I, free_L, S_yl, gA, gH, subs_append, hfo]))
          
    · have e1 : ((k : Int) < (a.length : Int)) = False := eq_false (by omega)
      have ek : k = a.length := by omega
      subst ek
      rw [← ho]
      cases o with
      | nil =>
        simp only [List.map_cons, List.map_nil, subs, List.cons.injEq] at hfo
        simp +contextual -implicitDefEqProofs (maxSteps := 2000000) only [S_yl, gA, gH, e1, List.map_nil, List.map_cons, List.length_map, t28, Nat.le_refl, hfo, ruB, rh_no, Int.reduceLT, Int.reduceLE, Int.reduceAdd, Int.reduceSub, Int.reduceMul, Int.reduceNeg, Int.reduceToNat, Int.reduceEq, Int.reduceNe, Int.reduceTDiv, Int.reduceTMod, implies_true, putL, appN, appX, appC, Eng.Fi, reduceCtorEq, exists_eq_left', exists_eq_left, if_true, if_false, List.replicate, Nat.reduceAdd, Nat.reduceSub, Nat.reduceMul, Nat.reduceLeDiff, Nat.reduceLT, Nat.reduceEqDiff]
        
      | cons x0 xr =>
        simp only [List.map_cons, List.map_nil, subs, List.cons.injEq] at hfo
        simp +contextual -implicitDefEqProofs (maxSteps := 2000000) only [S_yl, gA, gH, e1, List.map_nil, List.map_cons, List.length_map, t28, Nat.le_refl, hfo, ruB, rh_no, Int.reduceLT, Int.reduceLE, Int.reduceAdd, Int.reduceSub, Int.reduceMul, Int.reduceNeg, Int.reduceToNat, Int.reduceEq, Int.reduceNe, Int.reduceTDiv, Int.reduceTMod, implies_true, putL, appN, appX, appC, Eng.Fi, reduceCtorEq, exists_eq_left', exists_eq_left, if_true, if_false, List.replicate, Nat.reduceAdd, Nat.reduceSub, Nat.reduceMul, Nat.reduceLeDiff, Nat.reduceLT, Nat.reduceEqDiff]
        
def cf_rLinks : List AV → Option AV
  | [.vs a_v, .vs b_v, .int .i64 n] => onL dVo a_v fun a => onL dVo b_v fun b => if olE a b n = 0 then some (.vs ((liV a b n).map eI)) else none
  | _ => none
theorem g_rLinks : Fn P 45 cf_rLinks := fun args v hh => by
  unfold cf_rLinks at hh; split at hh
  · obtain ⟨a, rfl, hh1⟩ := onL_inv dVo_inv hh
    obtain ⟨b, rfl, hh2⟩ := onL_inv dVo_inv hh1
    split at hh2
    · rename_i hc; have hk := Option.some.inj hh2; subst hk; exact k_rLinks _ _ _ hc
    · cases hh2
  · cases hh
theorem x_rLinks (a : List Vo) (b : List Vo) (n : Int) (hc : (olE a b n = 0) = True) : cf_rLinks [.vs (a.map eVo), .vs (b.map eVo), .int .i64 n] = some (.vs ((liV a b n).map eI)) := by
  simp only [cf_rLinks, onL_map dVo_e]
  exact if_pos (by rw [hc]; trivial)
def S_wl (a b : List Vo) (n : Int) (M : List L) (li : L) (k : Nat) : AState := ⟨[.vs (a.map eVo), .vs (b.map eVo), I n, .any, .any, .any, .any, .vs (M.map eL), .any, .vs (li.map eI), I 0, .any, .vs (M.map eL), I k, .any, .any, .any, .any, .any, .any, .any, .any, .any, .any, .any, .any, .any, .any, .any, .any, .any, .any, .any, .any, .any, .any, .any, .any, .any, .any, .any, .any, .any, .any, .any, .any, .any, .any, .any, .any, .any, .any, .any, .any, .any, .any, .any, .any, .any, .any, .any, .any, .any, .any, .any, .any, .any, .any, .any, .any, .any, .any, .any, .any, .any, .any, .any, .any, .any, .any, .any, .any, .any, .any, .any, .any, .any, .any, .any, .any, .any, .any, .any, .any, .any, .any, .any, .any, .any, .any, .any, .any, .any, .any, .any, .any, .any, .any, .any, .any, .any, .any, .any, .any, .any, .any, .any, .any], [], 0⟩
theorem liV_len (a b : List Vo) (n : Int) : (liV a b n).length ≤ a.length := by
  rw [liV]
  split
  · simp
  · rw [List.length_map, List.length_take]; omega
set_option maxHeartbeats 4000000 in
theorem k_WakeLinks (a b : List Vo) (n : Int) : FOk P 7 [.vs (a.map eVo), .vs (b.map eVo), I n] (.bool true) := by
  have z1 := x_brief6 a
  have z2 := x_brief6 b
  have z3 := x_rLinksErr a b n
  by_cases h1 : (a.length : Int) ≤ 5
  · have h1' := eq_true h1
    by_cases h2 : (b.length : Int) ≤ 5
    · have h2' := eq_true h2
      have w : IntKind.wrap .i64 ((a.length : Int) + (b.length : Int)) = (a.length : Int) + (b.length : Int) := wrap64 (by omega) (by omega)
      have ya := x_CopyVortices a (by simp only [eq_iff_iff, iff_true]; omega)
      have yb := x_CopyVortices b (by simp only [eq_iff_iff, iff_true]; omega)
      have y1 := x_LinkCosts a b n
      have y2 := x_LinksOf a b n
      by_cases h0 : olE a b n = 0
      · have h0' := eq_true h0
        by_cases h5 : 5 < (a.length : Int) + (b.length : Int)
        · have h5' := eq_true h5
          refine c7.fok (by simp only [subs, sub1, free_Vo]) (Cor.run (addC_good g_rLinksErr (addC_good g_brief6 (addC_good g_awake (noC_good _)))) (noHx_good _) hm ?_)
          simp +contextual -implicitDefEqProofs (maxSteps := 2000000) only [bg_eq, a7, x_awake, z1, z2, z3, w, h0', h1', h2', h5', List.length_map, not_true_eq_false, not_false_eq_true, ruB, rh_no, Int.reduceLT, Int.reduceLE, Int.reduceAdd, Int.reduceSub, Int.reduceMul, Int.reduceNeg, Int.reduceToNat, Int.reduceEq, Int.reduceNe, Int.reduceTDiv, Int.reduceTMod, implies_true, putL, appN, appX, appC, Eng.Fi, reduceCtorEq, exists_eq_left', exists_eq_left, if_true, if_false, List.replicate, Nat.reduceAdd, Nat.reduceSub, Nat.reduceMul, Nat.reduceLeDiff, Nat.reduceLT, Nat.reduceEqDiff]
        · have h5' := eq_false h5
          rw [lcV, if_pos h0] at y1
          rw [lsV, if_pos h0] at y2
          have y3 := x_rCosts a b n (by simp only [h0])
          have y4 := x_rLinks a b n (by simp only [h0])
          have hli := liV_len a b n
          have hrow : ∀ r ∈ lkL a b n, r.length ≤ 10 := fun r hr => by
            unfold lkL lkM at hr
            obtain ⟨i, _, rfl⟩ := List.mem_map.1 hr
            rw [lkR_len]; omega
          have hMl : (lkL a b n).length ≤ 10 := by rw [lkL, lkM_len]; omega
          have hfM := fun φ => free_L φ (lkL a b n)
          generalize lkL a b n = M at *
          generalize liV a b n = li at *
          have v2 := x_Ints li li (by simp only [eq_iff_iff, iff_true]; omega)
          rw [show decide (li = li) = true from decide_eq_true rfl] at v2
          refine c7.fok (by simp only [subs, sub1, free_Vo]) (Cor.run (addC_good g_Ints (addC_good g_rLinks (addC_good g_rCosts (addC_good g_LinksOf (addC_good g_LinkCosts (addC_good g_CopyVortices (addC_good g_rLinksErr (addC_good g_brief6 (addC_good g_awake (noC_good _)))))))))) (noHx_good _) hm ?_)
          simp +contextual -implicitDefEqProofs (maxSteps := 2000000) only [bg_eq, a7, x_awake, z1, z2, z3, w, ya, yb, y1, y2, y3, h0', h1', h2', h5', List.length_map, Int.natCast_zero, not_true_eq_false, not_false_eq_true, ruB, rh_no, Int.reduceLT, Int.reduceLE, Int.reduceAdd, Int.reduceSub, Int.reduceMul, Int.reduceNeg, Int.reduceToNat, Int.reduceEq, Int.reduceNe, Int.reduceTDiv, Int.reduceTMod, implies_true, putL, appN, appX, appC, Eng.Fi, reduceCtorEq, exists_eq_left', exists_eq_left, if_true, if_false, List.replicate, Nat.reduceAdd, Nat.reduceSub, Nat.reduceMul, Nat.reduceLeDiff, Nat.reduceLT, Nat.reduceEqDiff]
          refine Cor.lp (addC_good g_Ints (addC_good g_rLinks (addC_good g_rCosts (addC_good g_LinksOf (addC_good g_LinkCosts (addC_good g_CopyVortices (addC_good g_rLinksErr (addC_good g_brief6 (addC_good g_awake (noC_good _)))))))))) (noHx_good _) hm (S_wl a b n M li) (fun k => k ≤ M.length) (fun k => M.length - k) (a := 0) (Nat.zero_le _) (Wkn.keep [0, 1, 2, 7, 9, 10, 12, 13] rfl) ?_
          intro f k hk go
          rcases Nat.lt_or_ge k M.length with h | h
          · have e1 : decide ((k : Int) < (M.length : Int)) = true := lt_t h
            have e2 : (M.map eL)[k]? = some (eL M[k]) := get_e eL M h
            have e3 : IntKind.wrap .i64 ((k : Int) + 1) = ((k + 1 : Nat) : Int) := suc_w (by omega)
            have hr := hrow M[k] (by simp)
            have v1 := x_Ints M[k] M[k] (by simp only [eq_iff_iff, iff_true]; omega)
            rw [show decide (M[k] = M[k]) = true from decide_eq_true rfl] at v1
            generalize M[k] = r at *
            simp +contextual -implicitDefEqProofs (maxSteps := 2000000) only [S_wl, e1, e2, e3, v1, List.length_map, not_true_eq_false, ruB, rh_no, Int.reduceLT, Int.reduceLE, Int.reduceAdd, Int.reduceSub, Int.reduceMul, Int.reduceNeg, Int.reduceToNat, Int.reduceEq, Int.reduceNe, Int.reduceTDiv, Int.reduceTMod, implies_true, putL, appN, appX, appC, Eng.Fi, reduceCtorEq, exists_eq_left', exists_eq_left, if_true, if_false, List.replicate, Nat.reduceAdd, Nat.reduceSub, Nat.reduceMul, Nat.reduceLeDiff, Nat.reduceLT, Nat.reduceEqDiff]
            exact go _ (k + 1) h (by omega) (Wkn.keep [0, 1, 2, 7, 9, 10, 12, 13] rfl)
          · have e1 : decide ((k : Int) < (M.length : Int)) = false := lt_f h
            simp +contextual -implicitDefEqProofs (maxSteps := 2000000) only [S_wl, e1, y4, v2, List.length_map, ruB, rh_no, Int.reduceLT, Int.reduceLE, Int.reduceAdd, Int.reduceSub, Int.reduceMul, Int.reduceNeg, Int.reduceToNat, Int.reduceEq, Int.reduceNe, Int.reduceTDiv, Int.reduceTMod, implies_true, putL, appN, appX, appC, Eng.Fi, reduceCtorEq, exists_eq_left', exists_eq_left, if_true, if_false, List.replicate, Nat.reduceAdd, Nat.reduceSub, Nat.reduceMul, Nat.reduceLeDiff, Nat.reduceLT, Nat.reduceEqDiff]
      · have h0' := eq_false h0
        rw [lcV, if_neg h0] at y1
        rw [lsV, if_neg h0] at y2
        generalize olE a b n = e at *
        by_cases h5 : 5 < (a.length : Int) + (b.length : Int)
        · have h5' := eq_true h5
          refine c7.fok (by simp only [subs, sub1, free_Vo]) (Cor.run (addC_good g_LinksOf (addC_good g_LinkCosts (addC_good g_CopyVortices (addC_good g_rLinksErr (addC_good g_brief6 (addC_good g_awake (noC_good _))))))) (noHx_good _) hm ?_)
          simp +contextual -implicitDefEqProofs (maxSteps := 2000000) only [bg_eq, a7, x_awake, z1, z2, z3, w, ya, yb, y1, y2, h0', h1', h2', h5', List.length_map, Int.natCast_zero, not_true_eq_false, not_false_eq_true, ruB, rh_no, Int.reduceLT, Int.reduceLE, Int.reduceAdd, Int.reduceSub, Int.reduceMul, Int.reduceNeg, Int.reduceToNat, Int.reduceEq, Int.reduceNe, Int.reduceTDiv, Int.reduceTMod, implies_true, putL, appN, appX, appC, Eng.Fi, reduceCtorEq, exists_eq_left', exists_eq_left, if_true, if_false, List.replicate, Nat.reduceAdd, Nat.reduceSub, Nat.reduceMul, Nat.reduceLeDiff, Nat.reduceLT, Nat.reduceEqDiff]
        · have h5' := eq_false h5
          refine c7.fok (by simp only [subs, sub1, free_Vo]) (Cor.run (addC_good g_LinksOf (addC_good g_LinkCosts (addC_good g_CopyVortices (addC_good g_rLinksErr (addC_good g_brief6 (addC_good g_awake (noC_good _))))))) (noHx_good _) hm ?_)
          simp +contextual -implicitDefEqProofs (maxSteps := 2000000) only [bg_eq, a7, x_awake, z1, z2, z3, w, ya, yb, y1, y2, h0', h1', h2', h5', List.length_map, Int.natCast_zero, not_true_eq_false, not_false_eq_true, ruB, rh_no, Int.reduceLT, Int.reduceLE, Int.reduceAdd, Int.reduceSub, Int.reduceMul, Int.reduceNeg, Int.reduceToNat, Int.reduceEq, Int.reduceNe, Int.reduceTDiv, Int.reduceTMod, implies_true, putL, appN, appX, appC, Eng.Fi, reduceCtorEq, exists_eq_left', exists_eq_left, if_true, if_false, List.replicate, Nat.reduceAdd, Nat.reduceSub, Nat.reduceMul, Nat.reduceLeDiff, Nat.reduceLT, Nat.reduceEqDiff]
    · have h2' := eq_false h2
      refine c7.fok (by simp only [subs, sub1, free_Vo]) (Cor.run (addC_good g_rLinksErr (addC_good g_brief6 (addC_good g_awake (noC_good _)))) (noHx_good _) hm ?_)
      simp +contextual -implicitDefEqProofs (maxSteps := 2000000) only [bg_eq, a7, x_awake, z1, z2, h1', h2', List.length_map, not_true_eq_false, not_false_eq_true, ruB, rh_no, Int.reduceLT, Int.reduceLE, Int.reduceAdd, Int.reduceSub, Int.reduceMul, Int.reduceNeg, Int.reduceToNat, Int.reduceEq, Int.reduceNe, Int.reduceTDiv, Int.reduceTMod, implies_true, putL, appN, appX, appC, Eng.Fi, reduceCtorEq, exists_eq_left', exists_eq_left, if_true, if_false, List.replicate, Nat.reduceAdd, Nat.reduceSub, Nat.reduceMul, Nat.reduceLeDiff, Nat.reduceLT, Nat.reduceEqDiff]
  · have h1' := eq_false h1
    refine c7.fok (by simp only [subs, sub1, free_Vo]) (Cor.run (addC_good g_rLinksErr (addC_good g_brief6 (addC_good g_awake (noC_good _)))) (noHx_good _) hm ?_)
    simp +contextual -implicitDefEqProofs (maxSteps := 2000000) only [bg_eq, a7, x_awake, z1, h1', List.length_map, not_true_eq_false, not_false_eq_true, ruB, rh_no, Int.reduceLT, Int.reduceLE, Int.reduceAdd, Int.reduceSub, Int.reduceMul, Int.reduceNeg, Int.reduceToNat, Int.reduceEq, Int.reduceNe, Int.reduceTDiv, Int.reduceTMod, implies_true, putL, appN, appX, appC, Eng.Fi, reduceCtorEq, exists_eq_left', exists_eq_left, if_true, if_false, List.replicate, Nat.reduceAdd, Nat.reduceSub, Nat.reduceMul, Nat.reduceLeDiff, Nat.reduceLT, Nat.reduceEqDiff]
theorem law7 (n0 : Nat) (u0 : AV) (a0 : ArG P n0 34 u0) (n1 : Nat) (u1 : AV) (a1 : ArG P n1 34 u1) (n2 : Nat) (u2 : AV) (a2 : ArG P n2 3 u2) : FOk P 7 [u0, u1, u2] (.bool true) := by
  obtain ⟨a, rfl, _⟩ := arVortices a0
  obtain ⟨b, rfl, _⟩ := arVortices a1
  obtain ⟨n, rfl, _⟩ := arInt a2
  exact k_WakeLinks a b n
end Wa
