import Derived.Test.YtabkbhpeeefmgaaEngS9
import Derived.Test.YtabkbhpeeefmgaaW909
open Go Go.Proofs Eng
set_option maxRecDepth 100000
set_option linter.unusedSimpArgs false
set_option linter.unusedVariables false
def a111 : AC := .seq (.ops false [] [⟨some 6, .p (.mov), [.c (.nilslice)], none⟩]) (.seq (.ops false [] [⟨some 7, .p (.mov), [.c (.nilslice)], none⟩]) (.seq (.seq (.ops false [] [⟨some 17, .p (.mov), [.t 0], none⟩, ⟨some 18, .p (.lenS), [.t 17], none⟩, ⟨some 19, .p (.mov), [.t 1], none⟩, ⟨some 20, .p (.lenS), [.t 19], none⟩, ⟨some 21, .p (.binI .add), [.t 18, .t 20], none⟩, ⟨some 22, .p (.mov), [.c (.int .i64 0)], none⟩]) (.block 0 (.loop (.seq (.ops false [] [⟨some 23, .p (.binI .lss), [.t 22, .t 21], none⟩]) (.seq (.cond (.t 23) (.skip) (.exit 0)) (.seq (.block 1 (.seq (.ops false [] [⟨some 24, .p (.mov), [.t 22], none⟩, ⟨some 8, .p (.mov), [.t 24], none⟩]) (.seq (.ops false [] [⟨some 9, .p (.mov), [.c (.nilslice)], none⟩]) (.seq (.seq (.ops false [] [⟨some 25, .p (.mov), [.t 0], none⟩, ⟨some 26, .p (.lenS), [.t 25], none⟩, ⟨some 27, .p (.mov), [.t 1], none⟩, ⟨some 28, .p (.lenS), [.t 27], none⟩, ⟨some 29, .p (.binI .add), [.t 26, .t 28], none⟩, ⟨some 30, .p (.mov), [.c (.int .i64 0)], none⟩]) (.block 2 (.loop (.seq (.ops false [] [⟨some 31, .p (.binI .lss), [.t 30, .t 29], none⟩]) (.seq (.cond (.t 31) (.skip) (.exit 2)) (.seq (.block 3 (.seq (.ops false [] [⟨some 32, .p (.mov), [.t 30], none⟩, ⟨some 10, .p (.mov), [.t 32], none⟩]) (.seq (.ops false [] [⟨some 33, .p (.mov), [.t 8], none⟩, ⟨some 34, .p (.mov), [.t 0], none⟩, ⟨some 35, .p (.lenS), [.t 34], none⟩, ⟨some 36, .p (.binI .lss), [.t 33, .t 35], none⟩, ⟨some 37, .p (.mov), [.t 10], none⟩, ⟨some 38, .p (.mov), [.t 1], none⟩, ⟨some 39, .p (.lenS), [.t 38], none⟩, ⟨some 40, .p (.binI .lss), [.t 37, .t 39], none⟩, ⟨some 11, .p (.mov), [.t 36], none⟩, ⟨some 12, .p (.mov), [.t 40], none⟩]) (.block 4 (.seq (.ops false [] [⟨some 45, .p (.mov), [.t 11], none⟩, ⟨some 46, .p (.mov), [.t 45], none⟩, ⟨some 47, .p (.mov), [.t 12], some (46, true)⟩, ⟨some 48, .p (.pick), [.t 46, .t 47, .c (.bool false)], none⟩, ⟨some 44, .p (.mov), [.t 48], none⟩]) (.cond (.t 44) (.seq (.ops true [(3, 8), (7, 8), (3, 9), (7, 9), (8, 9), (7, 10)] [⟨some 49, .p (.mov), [.t 0], none⟩, ⟨some 50, .p (.mov), [.t 8], none⟩, ⟨some 51, .p (.iaddrS 3), [.t 49, .t 50], none⟩, ⟨some 52, .load 3 true, [.t 51], none⟩, ⟨some 53, .p (.mov), [.t 1], none⟩, ⟨some 54, .p (.mov), [.t 10], none⟩, ⟨some 55, .p (.iaddrS 3), [.t 53, .t 54], none⟩, ⟨some 56, .load 3 true, [.t 55], none⟩, ⟨some 13, .alloc 46 3 [.agg [.int .i64 0, .int .i64 0, .int .i64 0]], [], none⟩, ⟨some 14, .alloc 46 3 [.agg [.int .i64 0, .int .i64 0, .int .i64 0]], [], none⟩, ⟨none, .store 3 true, [.t 13, .t 52], none⟩, ⟨none, .store 3 true, [.t 14, .t 56], none⟩]) (.seq (.ops true [] [⟨some 57, .p (.faddr 0), [.t 13], none⟩, ⟨some 58, .p (.faddr 0), [.t 57], none⟩, ⟨some 59, .load 1 false, [.t 58], none⟩, ⟨some 60, .p (.faddr 0), [.t 14], none⟩, ⟨some 61, .p (.faddr 0), [.t 60], none⟩, ⟨some 62, .load 1 false, [.t 61], none⟩, ⟨some 63, .p (.binI .sub), [.t 59, .t 62], none⟩, ⟨some 64, .p (.faddr 0), [.t 13], none⟩, ⟨some 65, .p (.faddr 1), [.t 64], none⟩, ⟨some 66, .load 1 false, [.t 65], none⟩, ⟨some 67, .p (.faddr 0), [.t 14], none⟩, ⟨some 68, .p (.faddr 1), [.t 67], none⟩, ⟨some 69, .load 1 false, [.t 68], none⟩, ⟨some 70, .p (.binI .sub), [.t 66, .t 69], none⟩, ⟨some 15, .p (.mov), [.t 63], none⟩, ⟨some 16, .p (.mov), [.t 70], none⟩]) (.ops false [] [⟨some 71, .p (.mov), [.t 9], none⟩, ⟨some 72, .p (.mov), [.t 15], none⟩, ⟨some 73, .p (.mov), [.t 15], none⟩, ⟨some 74, .p (.binI .mul), [.t 72, .t 73], none⟩, ⟨some 75, .p (.mov), [.t 16], none⟩, ⟨some 76, .p (.mov), [.t 16], none⟩, ⟨some 77, .p (.binI .mul), [.t 75, .t 76], none⟩, ⟨some 78, .p (.binI .add), [.t 74, .t 77], none⟩, ⟨some 79, .p (.faddr 2), [.t 13], none⟩, ⟨some 80, .load 1 false, [.t 79], none⟩, ⟨some 81, .p (.faddr 2), [.t 14], none⟩, ⟨some 82, .load 1 false, [.t 81], none⟩, ⟨some 83, .p (.binI .sub), [.t 80, .t 82], none⟩, ⟨some 84, .call 143, [.t 83], none⟩, ⟨some 85, .p (.binI .add), [.t 78, .t 84], none⟩, ⟨some 86, .fbs 1, [.t 85], none⟩, ⟨some 87, .app 3 1 8, [.t 71, .t 86], none⟩, ⟨some 9, .p (.mov), [.t 87], none⟩]))) (.seq (.ops false [] [⟨some 89, .p (.mov), [.t 11], none⟩, ⟨some 90, .p (.mov), [.t 89], none⟩, ⟨some 91, .p (.mov), [.t 12], some (90, false)⟩, ⟨some 92, .p (.pick), [.t 90, .c (.bool true), .t 91], none⟩, ⟨some 88, .p (.mov), [.t 92], none⟩]) (.cond (.t 88) (.ops false [] [⟨some 93, .p (.mov), [.t 9], none⟩, ⟨some 94, .p (.mov), [.t 2], none⟩, ⟨some 95, .fbs 1, [.t 94], none⟩, ⟨some 96, .app 3 1 8, [.t 93, .t 95], none⟩, ⟨some 9, .p (.mov), [.t 96], none⟩]) (.ops false [] [⟨some 41, .p (.mov), [.t 9], none⟩, ⟨some 42, .fbs 1, [.c (.int .i64 0)], none⟩, ⟨some 43, .app 3 1 8, [.t 41, .t 42], none⟩, ⟨some 9, .p (.mov), [.t 43], none⟩]))))))))) (.ops false [] [⟨some 97, .p (.binI .add), [.t 30, .c (.int .i64 1)], none⟩, ⟨some 30, .p (.mov), [.t 97], none⟩]))))))) (.ops false [] [⟨some 98, .p (.mov), [.t 7], none⟩, ⟨some 99, .p (.mov), [.t 9], none⟩, ⟨some 100, .fbs 1, [.t 99], none⟩, ⟨some 101, .app 38 1 24, [.t 98, .t 100], none⟩, ⟨some 7, .p (.mov), [.t 101], none⟩]))))) (.ops false [] [⟨some 102, .p (.binI .add), [.t 22, .c (.int .i64 1)], none⟩, ⟨some 22, .p (.mov), [.t 102], none⟩]))))))) (.seq (.ops false [] [⟨some 103, .p (.mov), [.t 7], none⟩, ⟨some 6, .p (.mov), [.t 103], none⟩]) (.ret))))
theorem c111 : FnC Try.prog 111 104 a111 [.tmp 6] := ⟨Try.call111, _, _, Try.func111, rfl, by kernel_rfl, by kernel_rfl, rfl⟩
namespace Wa
theorem dg_gH {id ty esz t g : Nat} {l : List AV} (h : (id = g) = False) : dropG (gH id ty esz l) t g = gH id ty esz l := by
  have h : ¬ id = g := by rw [h]; simp
  cases l <;> simp [gH, dropG, h]
theorem sb_gH {id ty esz t g : Nat} {l : List AV} {k : ABlk} (h : (id = g) = False) : Eng.setB (gH id ty esz l) t g k = gH id ty esz l := by
  have h : ¬ id = g := by rw [h]; simp
  cases l <;> simp [gH, Eng.setB, h]
theorem ge_gH {id ty esz t : Nat} {l : List AV} (h : (id = t) = False) : getE (gH id ty esz l) t = none := by
  have h : ¬ id = t := by rw [h]; simp
  cases l <;> simp [gH, getE, h]
def S_co (a b : List Vo) (n : Int) (q : Nat × List L) : AState := ⟨[.vs (a.map eVo), .vs (b.map eVo), I n, .any, .any, .any, .any, gA 0 1 (q.2.map eL), .any, .any, .any, .any, .any, .any, .any, .any, .any, .any, .any, .any, .any, I ((a.length + b.length : Nat) : Int), I q.1, .any, .any, .any, .any, .any, .any, .any, .any, .any, .any, .any, .any, .any, .any, .any, .any, .any, .any, .any, .any, .any, .any, .any, .any, .any, .any, .any, .any, .any, .any, .any, .any, .any, .any, .any, .any, .any, .any, .any, .any, .any, .any, .any, .any, .any, .any, .any, .any, .any, .any, .any, .any, .any, .any, .any, .any, .any, .any, .any, .any, .any, .any, .any, .any, .any, .any, .any, .any, .any, .any, .any, .any, .any, .any, .any, .any, .any, .any, .any, .any, .any], gH 0 38 1 (q.2.map eL), 1⟩
def S_ci (a b : List Vo) (n : Int) (out : List L) (i : Nat) (q : Nat × L) : AState := ⟨[.vs (a.map eVo), .vs (b.map eVo), I n, .any, .any, .any, .any, gA 0 1 (out.map eL), I i, gA 1 1 (q.2.map eI), .any, .any, .any, .any, .any, .any, .any, .any, .any, .any, .any, I ((a.length + b.length : Nat) : Int), I i, .any, .any, .any, .any, .any, .any, I ((a.length + b.length : Nat) : Int), I q.1, .any, .any, .any, .any, .any, .any, .any, .any, .any, .any, .any, .any, .any, .any, .any, .any, .any, .any, .any, .any, .any, .any, .any, .any, .any, .any, .any, .any, .any, .any, .any, .any, .any, .any, .any, .any, .any, .any, .any, .any, .any, .any, .any, .any, .any, .any, .any, .any, .any, .any, .any, .any, .any, .any, .any, .any, .any, .any, .any, .any, .any, .any, .any, .any, .any, .any, .any, .any, .any, .any, .any, .any, .any], gH 1 3 1 (q.2.map eI) ++ gH 0 38 1 (out.map eL), 2⟩
theorem lkE_tt {a b : List Vo} {n : Int} {i j : Nat} (h1 : i < a.length) (h2 : j < b.length) : lkE a b n i j = offV a[i] b[j] := by
  unfold lkE; rw [List.getElem?_eq_getElem h1, List.getElem?_eq_getElem h2]
theorem lkE_or {a b : List Vo} {n : Int} {i j : Nat} (h : ¬ (i < a.length ∧ j < b.length)) (h2 : i < a.length ∨ j < b.length) : lkE a b n i j = n := by
  unfold lkE
  rcases Nat.lt_or_ge i a.length with g1 | g1
  · rcases Nat.lt_or_ge j b.length with g2 | g2
    · exact absurd ⟨g1, g2⟩ h
    · rw [List.getElem?_eq_getElem g1, List.getElem?_eq_none g2]
  · rcases Nat.lt_or_ge j b.length with g2 | g2
    · rw [List.getElem?_eq_none g1, List.getElem?_eq_getElem g2]
    · omega
theorem lkE_ff {a b : List Vo} {n : Int} {i j : Nat} (h1 : a.length ≤ i) (h2 : b.length ≤ j) : lkE a b n i j = 0 := by
  unfold lkE; rw [List.getElem?_eq_none h1, List.getElem?_eq_none h2]
set_option maxHeartbeats 4000000 in
theorem k_costs0 (a b : List Vo) (n : Int) (hb : lkB a b n) : FOk P 111 [.vs (a.map eVo), .vs (b.map eVo), I n] (.vs ((lkL a b n).map eL)) := by
  have ha3 := hb.a.1
  have hb3 := hb.b.1
  have wN : IntKind.wrap .i64 ((a.length : Int) + (b.length : Int)) = ((a.length + b.length : Nat) : Int) := by rw [wrap64 (by omega) (by omega)]; omega
  refine c111.fok (by simp only [subs, sub1, free_Vo]) (Cor.run (addC_good g_size (noC_good _)) (noHx_good _) hm ?_)
  simp +contextual -implicitDefEqProofs (maxSteps := 2000000) only [bg_eq, a111, List.length_map, wN, ruB, rh_no, Int.reduceLT, Int.reduceLE, Int.reduceAdd, Int.reduceSub, Int.reduceMul, Int.reduceNeg, Int.reduceToNat, Int.reduceEq, Int.reduceNe, Int.reduceTDiv, Int.reduceTMod, implies_true, putL, appN, appX, appC, Eng.Fi, reduceCtorEq, exists_eq_left', exists_eq_left, if_true, if_false, List.replicate, Nat.reduceAdd, Nat.reduceSub, Nat.reduceMul, Nat.reduceLeDiff, Nat.reduceLT, Nat.reduceEqDiff]
  refine Cor.lp (addC_good g_size (noC_good _)) (noHx_good _) hm (S_co a b n) (fun q => q.1 ≤ a.length + b.length ∧ q.2 = lkM a b n (a.length + b.length) q.1) (fun q => a.length + b.length - q.1) (a := (0, [])) ⟨Nat.zero_le _, rfl⟩ (Wkn.to ⟨0, [], [], 1, [0, 1, 2, 7, 21, 22]⟩ rfl rfl (by simp [Wk.st, keepT, memN, Wk.fate, Wk.fate0, assoc, getE, Wk.hp, ABlk.sub, sub1, subs, free_Vo, S_co, gA, gH])) ?_
  rintro f ⟨i, out⟩ ⟨hi, hout⟩ go
  simp only at hi hout
  have hol : out.length = i := by rw [hout, lkM_len]
  rcases Nat.lt_or_ge i (a.length + b.length) with hlt | hlt
  · have e1 : decide ((i : Int) < ((a.length + b.length : Nat) : Int)) = true := lt_t hlt
    have e3 : IntKind.wrap .i64 ((i : Int) + 1) = ((i + 1 : Nat) : Int) := suc_w (by omega)
    simp +contextual -implicitDefEqProofs (maxSteps := 2000000) only [S_co, e1, e3, List.length_map, wN, ruB, rh_no, Int.reduceLT, Int.reduceLE, Int.reduceAdd, Int.reduceSub, Int.reduceMul, Int.reduceNeg, Int.reduceToNat, Int.reduceEq, Int.reduceNe, Int.reduceTDiv, Int.reduceTMod, implies_true, putL, appN, appX, appC, Eng.Fi, reduceCtorEq, exists_eq_left', exists_eq_left, if_true, if_false, List.replicate, Nat.reduceAdd, Nat.reduceSub, Nat.reduceMul, Nat.reduceLeDiff, Nat.reduceLT, Nat.reduceEqDiff]
    refine Cor.lp (addC_good g_size (noC_good _)) (noHx_good _) hm (S_ci a b n out i) (fun q => q.1 ≤ a.length + b.length ∧ q.2 = lkR a b n i q.1) (fun q => a.length + b.length - q.1) (a := (0, [])) ⟨Nat.zero_le _, rfl⟩ ?_ ?_
    · cases out with
      | nil => exact Wkn.to ⟨0, [], [], 2, [0, 1, 2, 7, 8, 9, 21, 22, 29, 30]⟩ rfl rfl (by simp [Wk.st, keepT, memN, Wk.fate, Wk.fate0, assoc, getE, Wk.hp, ABlk.sub, sub1, subs, free_Vo, S_ci, gA, gH])
      | cons q out =>
        have hfq := fun φ => free_I φ q
        have hfo := fun φ => free_L φ out
        exact Wkn.to ⟨0, [(0, 0)], [], 2, [0, 1, 2, 7, 8, 9, 21, 22, 29, 30]⟩ rfl rfl (by simp [Wk.st, keepT, memN, Wk.fate, Wk.fate0, assoc, getE, Wk.hp, ABlk.sub, sub1, subs, free_Vo, S_ci, gA, gH, hfq, hfo])
    rintro f2 ⟨j, row⟩ ⟨hj, hrow⟩ go2
    simp only at hj hrow
    have hrl : row.length = j := by rw [hrow, lkR_len]
    rcases Nat.lt_or_ge j (a.length + b.length) with hlt2 | hlt2
    · have q1 : decide ((j : Int) < ((a.length + b.length : Nat) : Int)) = true := lt_t hlt2
      have q3 : IntKind.wrap .i64 ((j : Int) + 1) = ((j + 1 : Nat) : Int) := suc_w (by omega)
      have m1 : (row.length + 1 ≤ maxLen) = True := mx (by omega)
      have m2 : ((row.length + 1) * 8 ≤ 140737488355328) = True := by simp only [eq_iff_iff, iff_true]; omega
      have hnext : ∀ x, lkE a b n i j = x → row ++ [x] = lkR a b n i (j + 1) := fun x hx => by rw [lkR_s, hrow, hx]
      have hfr := fun φ => free_I φ row
      by_cases c1 : i < a.length
      · have d1 : ((i : Int) < (a.length : Int)) = True := eq_true (by omega)
        by_cases c2 : j < b.length
        · have d2 : ((j : Int) < (b.length : Int)) = True := eq_true (by omega)
          have e4 : (a.map eVo)[i]? = some (eVo a[i]) := get_e eVo a c1
          have e5 : (b.map eVo)[j]? = some (eVo b[j]) := get_e eVo b c2
          have obd := off_bd (hb.a.2 a[i] (by simp)) (hb.b.2 b[j] (by simp))
          have hx := lkE_tt (n := n) c1 c2
          generalize a[i] = v at *
          generalize b[j] = w at *
          obtain ⟨⟨b1, b2, b3⟩, b4, b5, b6, b7⟩ := obd
          have w1 : IntKind.wrap .i64 (v.y - w.y) = v.y - w.y := wrap64 (by omega) (by omega)
          have w2 : IntKind.wrap .i64 (v.z - w.z) = v.z - w.z := wrap64 (by omega) (by omega)
          have w3 : IntKind.wrap .i64 ((v.y - w.y) * (v.y - w.y)) = (v.y - w.y) * (v.y - w.y) := wrap64 (by omega) (by omega)
          have w4 : IntKind.wrap .i64 ((v.z - w.z) * (v.z - w.z)) = (v.z - w.z) * (v.z - w.z) := wrap64 (by omega) (by omega)
          have w5 : IntKind.wrap .i64 ((v.y - w.y) * (v.y - w.y) + (v.z - w.z) * (v.z - w.z)) = (v.y - w.y) * (v.y - w.y) + (v.z - w.z) * (v.z - w.z) := wrap64 (by omega) (by omega)
          have w6 : IntKind.wrap .i64 (v.s - w.s) = v.s - w.s := wrap64 (by omega) (by omega)
          have y := x_size (v.s - w.s) (by simp only [eq_iff_iff, iff_true]; omega)
          have y : cf_size [.int .i64 (v.s - w.s)] = some (.int .i64 (szV (v.s - w.s))) := y
          have w7 : IntKind.wrap .i64 ((v.y - w.y) * (v.y - w.y) + (v.z - w.z) * (v.z - w.z) + szV (v.s - w.s)) = offV v w := wrap64 (by omega) (by omega)
          cases row with
          | nil =>
            simp only [List.map_cons, List.map_nil, subs, List.cons.injEq] at hfr
            simp only [List.length_nil, List.length_cons, Nat.zero_add] at m1 m2
            simp +contextual -implicitDefEqProofs (maxSteps := 2000000) only [S_ci, gA, gH, q1, q3, d1, d2, e4, e5, w1, w2, w3, w4, w5, w6, w7, y, List.map_cons, List.map_nil, List.length_map, rs_nil, rs_t, rs_f, ag_nils, ag_sl, ag_vs, ag_str, ag_ptr, ag_nilp, ag_vp, ag_fun, m1, m2, dg_gH, sb_gH, ge_gH, ruB, rh_no, Int.reduceLT, Int.reduceLE, Int.reduceAdd, Int.reduceSub, Int.reduceMul, Int.reduceNeg, Int.reduceToNat, Int.reduceEq, Int.reduceNe, Int.reduceTDiv, Int.reduceTMod, implies_true, putL, appN, appX, appC, Eng.Fi, reduceCtorEq, exists_eq_left', exists_eq_left, if_true, if_false, List.replicate, Nat.reduceAdd, Nat.reduceSub, Nat.reduceMul, Nat.reduceLeDiff, Nat.reduceLT, Nat.reduceEqDiff]
            cases out with
            | nil => exact go2 _ (j + 1, [] ++ [offV v w]) ⟨hlt2, hnext _ (hx)⟩ (by simp only; omega) (Wkn.to ⟨0, [(6, 1)], [], 2, [0, 1, 2, 7, 8, 9, 21, 22, 29, 30]⟩ rfl rfl (by simp [Wk.st, keepT, memN, Wk.fate, Wk.fate0, assoc, getE, Wk.hp, ABlk.sub, sub1, subs, free_Vo, S_ci, gA, gH, dropG, Eng.setB, subs_append, hfr]))
            | cons w0 wr =>
              have hf0 := fun φ => free_I φ w0
              have hfo := fun φ => free_L φ wr
              exact go2 _ (j + 1, [] ++ [offV v w]) ⟨hlt2, hnext _ (hx)⟩ (by simp only; omega) (Wkn.to ⟨0, [(6, 1), (0, 0)], [], 2, [0, 1, 2, 7, 8, 9, 21, 22, 29, 30]⟩ rfl rfl (by simp [Wk.st, keepT, memN, Wk.fate, Wk.fate0, assoc, getE, Wk.hp, ABlk.sub, sub1, subs, free_Vo, S_ci, gA, gH, dropG, Eng.setB, subs_append, hfr, hf0, hfo]))
            
          | cons x0 xr =>
            simp only [List.map_cons, List.map_nil, subs, List.cons.injEq] at hfr
            simp only [List.length_nil, List.length_cons, Nat.zero_add] at m1 m2
            simp +contextual -implicitDefEqProofs (maxSteps := 2000000) only [S_ci, gA, gH, q1, q3, d1, d2, e4, e5, w1, w2, w3, w4, w5, w6, w7, y, List.map_cons, List.map_nil, List.length_map, rs_nil, rs_t, rs_f, ag_nils, ag_sl, ag_vs, ag_str, ag_ptr, ag_nilp, ag_vp, ag_fun, m1, m2, dg_gH, sb_gH, ge_gH, ruB, rh_no, Int.reduceLT, Int.reduceLE, Int.reduceAdd, Int.reduceSub, Int.reduceMul, Int.reduceNeg, Int.reduceToNat, Int.reduceEq, Int.reduceNe, Int.reduceTDiv, Int.reduceTMod, implies_true, putL, appN, appX, appC, Eng.Fi, reduceCtorEq, exists_eq_left', exists_eq_left, if_true, if_false, List.replicate, Nat.reduceAdd, Nat.reduceSub, Nat.reduceMul, Nat.reduceLeDiff, Nat.reduceLT, Nat.reduceEqDiff]
            cases out with
            | nil => exact go2 _ (j + 1, (x0 :: xr) ++ [offV v w]) ⟨hlt2, hnext _ (hx)⟩ (by simp only; omega) (Wkn.to ⟨0, [(6, 1)], [], 2, [0, 1, 2, 7, 8, 9, 21, 22, 29, 30]⟩ rfl rfl (by simp [Wk.st, keepT, memN, Wk.fate, Wk.fate0, assoc, getE, Wk.hp, ABlk.sub, sub1, subs, free_Vo, S_ci, gA, gH, dropG, Eng.setB, subs_append, hfr]))
            | cons w0 wr =>
              have hf0 := fun φ => free_I φ w0
              have hfo := fun φ => free_L φ wr
              exact go2 _ (j + 1, (x0 :: xr) ++ [offV v w]) ⟨hlt2, hnext _ (hx)⟩ (by simp only; omega) (Wkn.to ⟨0, [(6, 1), (0, 0)], [], 2, [0, 1, 2, 7, 8, 9, 21, 22, 29, 30]⟩ rfl rfl (by simp [Wk.st, keepT, memN, Wk.fate, Wk.fate0, assoc, getE, Wk.hp, ABlk.sub, sub1, subs, free_Vo, S_ci, gA, gH, dropG, Eng.setB, subs_append, hfr, hf0, hfo]))
            
        · have d2 : ((j : Int) < (b.length : Int)) = False := eq_false (by omega)
          have hx := lkE_or (n := n) (i := i) (j := j) (a := a) (b := b) (by omega) (.inl c1)
          cases row with
          | nil =>
            simp only [List.map_cons, List.map_nil, subs, List.cons.injEq] at hfr
            simp only [List.length_nil, List.length_cons, Nat.zero_add] at m1 m2
            simp +contextual -implicitDefEqProofs (maxSteps := 2000000) only [S_ci, gA, gH, q1, q3, d1, d2, List.map_cons, List.map_nil, List.length_map, rs_nil, rs_t, rs_f, ag_nils, ag_sl, ag_vs, ag_str, ag_ptr, ag_nilp, ag_vp, ag_fun, m1, m2, dg_gH, sb_gH, ge_gH, ruB, rh_no, Int.reduceLT, Int.reduceLE, Int.reduceAdd, Int.reduceSub, Int.reduceMul, Int.reduceNeg, Int.reduceToNat, Int.reduceEq, Int.reduceNe, Int.reduceTDiv, Int.reduceTMod, implies_true, putL, appN, appX, appC, Eng.Fi, reduceCtorEq, exists_eq_left', exists_eq_left, if_true, if_false, List.replicate, Nat.reduceAdd, Nat.reduceSub, Nat.reduceMul, Nat.reduceLeDiff, Nat.reduceLT, Nat.reduceEqDiff]
            cases out with
            | nil => exact go2 _ (j + 1, [] ++ [n]) ⟨hlt2, hnext _ (hx)⟩ (by simp only; omega) (Wkn.to ⟨0, [(2, 1)], [], 2, [0, 1, 2, 7, 8, 9, 21, 22, 29, 30]⟩ rfl rfl (by simp [Wk.st, keepT, memN, Wk.fate, Wk.fate0, assoc, getE, Wk.hp, ABlk.sub, sub1, subs, free_Vo, S_ci, gA, gH, dropG, Eng.setB, subs_append, hfr]))
            | cons w0 wr =>
              have hf0 := fun φ => free_I φ w0
              have hfo := fun φ => free_L φ wr
              exact go2 _ (j + 1, [] ++ [n]) ⟨hlt2, hnext _ (hx)⟩ (by simp only; omega) (Wkn.to ⟨0, [(2, 1), (0, 0)], [], 2, [0, 1, 2, 7, 8, 9, 21, 22, 29, 30]⟩ rfl rfl (by simp [Wk.st, keepT, memN, Wk.fate, Wk.fate0, assoc, getE, Wk.hp, ABlk.sub, sub1, subs, free_Vo, S_ci, gA, gH, dropG, Eng.setB, subs_append, hfr, hf0, hfo]))
            
          | cons x0 xr =>
            simp only [List.map_cons, List.map_nil, subs, List.cons.injEq] at hfr
            simp only [List.length_nil, List.length_cons, Nat.zero_add] at m1 m2
            simp +contextual -implicitDefEqProofs (maxSteps := 2000000) only [S_ci, gA, gH, q1, q3, d1, d2, List.map_cons, List.map_nil, List.length_map, rs_nil, rs_t, rs_f, ag_nils, ag_sl, ag_vs, ag_str, ag_ptr, ag_nilp, ag_vp, ag_fun, m1, m2, dg_gH, sb_gH, ge_gH, ruB, rh_no, Int.reduceLT, Int.reduceLE, Int.reduceAdd, Int.reduceSub, Int.reduceMul, Int.reduceNeg, Int.reduceToNat, Int.reduceEq, Int.reduceNe, Int.reduceTDiv, Int.reduceTMod, implies_true, putL, appN, appX, appC, Eng.Fi, reduceCtorEq, exists_eq_left', exists_eq_left, if_true, if_false, List.replicate, Nat.reduceAdd, Nat.reduceSub, Nat.reduceMul, Nat.reduceLeDiff, Nat.reduceLT, Nat.reduceEqDiff]
            cases out with
            | nil => exact go2 _ (j + 1, (x0 :: xr) ++ [n]) ⟨hlt2, hnext _ (hx)⟩ (by simp only; omega) (Wkn.to ⟨0, [(2, 1)], [], 2, [0, 1, 2, 7, 8, 9, 21, 22, 29, 30]⟩ rfl rfl (by simp [Wk.st, keepT, memN, Wk.fate, Wk.fate0, assoc, getE, Wk.hp, ABlk.sub, sub1, subs, free_Vo, S_ci, gA, gH, dropG, Eng.setB, subs_append, hfr]))
            | cons w0 wr =>
              have hf0 := fun φ => free_I φ w0
              have hfo := fun φ => free_L φ wr
              exact go2 _ (j + 1, (x0 :: xr) ++ [n]) ⟨hlt2, hnext _ (hx)⟩ (by simp only; omega) (Wkn.to ⟨0, [(2, 1), (0, 0)], [], 2, [0, 1, 2, 7, 8, 9, 21, 22, 29, 30]⟩ rfl rfl (by simp [Wk.st, keepT, memN, Wk.fate, Wk.fate0, assoc, getE, Wk.hp, ABlk.sub, sub1, subs, free_Vo, S_ci, gA, gH, dropG, Eng.setB, subs_append, hfr, hf0, hfo]))
            
      · have d1 : ((i : Int) < (a.length : Int)) = False := eq_false (by omega)
        by_cases c2 : j < b.length
        · have d2 : ((j : Int) < (b.length : Int)) = True := eq_true (by omega)
          have hx := lkE_or (n := n) (i := i) (j := j) (a := a) (b := b) (by omega) (.inr c2)
          cases row with
          | nil =>
            simp only [List.map_cons, List.map_nil, subs, List.cons.injEq] at hfr
            simp only [List.length_nil, List.length_cons, Nat.zero_add] at m1 m2
            simp +contextual -implicitDefEqProofs (maxSteps := 2000000) only [S_ci, gA, gH, q1, q3, d1, d2, List.map_cons, List.map_nil, List.length_map, rs_nil, rs_t, rs_f, ag_nils, ag_sl, ag_vs, ag_str, ag_ptr, ag_nilp, ag_vp, ag_fun, m1, m2, dg_gH, sb_gH, ge_gH, ruB, rh_no, Int.reduceLT, Int.reduceLE, Int.reduceAdd, Int.reduceSub, Int.reduceMul, Int.reduceNeg, Int.reduceToNat, Int.reduceEq, Int.reduceNe, Int.reduceTDiv, Int.reduceTMod, implies_true, putL, appN, appX, appC, Eng.Fi, reduceCtorEq, exists_eq_left', exists_eq_left, if_true, if_false, List.replicate, Nat.reduceAdd, Nat.reduceSub, Nat.reduceMul, Nat.reduceLeDiff, Nat.reduceLT, Nat.reduceEqDiff]
            cases out with
            | nil => exact go2 _ (j + 1, [] ++ [n]) ⟨hlt2, hnext _ (hx)⟩ (by simp only; omega) (Wkn.to ⟨0, [(2, 1)], [], 2, [0, 1, 2, 7, 8, 9, 21, 22, 29, 30]⟩ rfl rfl (by simp [Wk.st, keepT, memN, Wk.fate, Wk.fate0, assoc, getE, Wk.hp, ABlk.sub, sub1, subs, free_Vo, S_ci, gA, gH, dropG, Eng.setB, subs_append, hfr]))
            | cons w0 wr =>
              have hf0 := fun φ => free_I φ w0
              have hfo := fun φ => free_L φ wr
              exact go2 _ (j + 1, [] ++ [n]) ⟨hlt2, hnext _ (hx)⟩ (by simp only; omega) (Wkn.to ⟨0, [(2, 1), (0, 0)], [], 2, [0, 1, 2, 7, 8, 9, 21, 22, 29, 30]⟩ rfl rfl (by simp [Wk.st, keepT, memN, Wk.fate, Wk.fate0, assoc, getE, Wk.hp, ABlk.sub, sub1, subs, free_Vo, S_ci, gA, gH, dropG, Eng.setB, subs_append, hfr, hf0, hfo]))
            
          | cons x0 xr =>
            simp only [List.map_cons, List.map_nil, subs, List.cons.injEq] at hfr
            simp only [List.length_nil, List.length_cons, Nat.zero_add] at m1 m2
            simp +contextual -implicitDefEqProofs (maxSteps := 2000000) only [S_ci, gA, gH, q1, q3, d1, d2, List.map_cons, List.map_nil, List.length_map, rs_nil, rs_t, rs_f, ag_nils, ag_sl, ag_vs, ag_str, ag_ptr, ag_nilp, ag_vp, ag_fun, m1, m2, dg_gH, sb_gH, ge_gH, ruB, rh_no, Int.reduceLT, Int.reduceLE, Int.reduceAdd, Int.reduceSub, Int.reduceMul, Int.reduceNeg, Int.reduceToNat, Int.reduceEq, Int.reduceNe, Int.reduceTDiv, Int.reduceTMod, implies_true, putL, appN, appX, appC, Eng.Fi, reduceCtorEq, exists_eq_left', exists_eq_left, if_true, if_false, List.replicate, Nat.reduceAdd, Nat.reduceSub, Nat.reduceMul, Nat.reduceLeDiff, Nat.reduceLT, Nat.reduceEqDiff]
            cases out with
            | nil => exact go2 _ (j + 1, (x0 :: xr) ++ [n]) ⟨hlt2, hnext _ (hx)⟩ (by simp only; omega) (Wkn.to ⟨0, [(2, 1)], [], 2, [0, 1, 2, 7, 8, 9, 21, 22, 29, 30]⟩ rfl rfl (by simp [Wk.st, keepT, memN, Wk.fate, Wk.fate0, assoc, getE, Wk.hp, ABlk.sub, sub1, subs, free_Vo, S_ci, gA, gH, dropG, Eng.setB, subs_append, hfr]))
            | cons w0 wr =>
              have hf0 := fun φ => free_I φ w0
              have hfo := fun φ => free_L φ wr
              exact go2 _ (j + 1, (x0 :: xr) ++ [n]) ⟨hlt2, hnext _ (hx)⟩ (by simp only; omega) (Wkn.to ⟨0, [(2, 1), (0, 0)], [], 2, [0, 1, 2, 7, 8, 9, 21, 22, 29, 30]⟩ rfl rfl (by simp [Wk.st, keepT, memN, Wk.fate, Wk.fate0, assoc, getE, Wk.hp, ABlk.sub, sub1, subs, free_Vo, S_ci, gA, gH, dropG, Eng.setB, subs_append, hfr, hf0, hfo]))
            
        · have d2 : ((j : Int) < (b.length : Int)) = False := eq_false (by omega)
          have hx := lkE_ff (n := n) (i := i) (j := j) (a := a) (b := b) (by omega) (by omega)
          cases row with
          | nil =>
            simp only [List.map_cons, List.map_nil, subs, List.cons.injEq] at hfr
            simp only [List.length_nil, List.length_cons, Nat.zero_add] at m1 m2
            simp +contextual -implicitDefEqProofs (maxSteps := 2000000) only [S_ci, gA, gH, q1, q3, d1, d2, List.map_cons, List.map_nil, List.length_map, rs_nil, rs_t, rs_f, ag_nils, ag_sl, ag_vs, ag_str, ag_ptr, ag_nilp, ag_vp, ag_fun, m1, m2, dg_gH, sb_gH, ge_gH, ruB, rh_no, Int.reduceLT, Int.reduceLE, Int.reduceAdd, Int.reduceSub, Int.reduceMul, Int.reduceNeg, Int.reduceToNat, Int.reduceEq, Int.reduceNe, Int.reduceTDiv, Int.reduceTMod, implies_true, putL, appN, appX, appC, Eng.Fi, reduceCtorEq, exists_eq_left', exists_eq_left, if_true, if_false, List.replicate, Nat.reduceAdd, Nat.reduceSub, Nat.reduceMul, Nat.reduceLeDiff, Nat.reduceLT, Nat.reduceEqDiff]
            cases out with
            | nil => exact go2 _ (j + 1, [] ++ [0]) ⟨hlt2, hnext _ (hx)⟩ (by simp only; omega) (Wkn.to ⟨0, [(2, 1)], [], 2, [0, 1, 2, 7, 8, 9, 21, 22, 29, 30]⟩ rfl rfl (by simp [Wk.st, keepT, memN, Wk.fate, Wk.fate0, assoc, getE, Wk.hp, ABlk.sub, sub1, subs, free_Vo, S_ci, gA, gH, dropG, Eng.setB, subs_append, hfr]))
            | cons w0 wr =>
              have hf0 := fun φ => free_I φ w0
              have hfo := fun φ => free_L φ wr
              exact go2 _ (j + 1, [] ++ [0]) ⟨hlt2, hnext _ (hx)⟩ (by simp only; omega) (Wkn.to ⟨0, [(2, 1), (0, 0)], [], 2, [0, 1, 2, 7, 8, 9, 21, 22, 29, 30]⟩ rfl rfl (by simp [Wk.st, keepT, memN, Wk.fate, Wk.fate0, assoc, getE, Wk.hp, ABlk.sub, sub1, subs, free_Vo, S_ci, gA, gH, dropG, Eng.setB, subs_append, hfr, hf0, hfo]))
            
          | cons x0 xr =>
            simp only [List.map_cons, List.map_nil, subs, List.cons.injEq] at hfr
            simp only [List.length_nil, List.length_cons, Nat.zero_add] at m1 m2
            simp +contextual -implicitDefEqProofs (maxSteps := 2000000) only [S_ci, gA, gH, q1, q3, d1, d2, List.map_cons, List.map_nil, List.length_map, rs_nil, rs_t, rs_f, ag_nils, ag_sl, ag_vs, ag_str, ag_ptr, ag_nilp, ag_vp, ag_fun, m1, m2, dg_gH, sb_gH, ge_gH, ruB, rh_no, Int.reduceLT, Int.reduceLE, Int.reduceAdd, Int.reduceSub, Int.reduceMul, Int.reduceNeg, Int.reduceToNat, Int.reduceEq, Int.reduceNe, Int.reduceTDiv, Int.reduceTMod, implies_true, putL, appN, appX, appC, Eng.Fi, reduceCtorEq, exists_eq_left', exists_eq_left, if_true, if_false, List.replicate, Nat.reduceAdd, Nat.reduceSub, Nat.reduceMul, Nat.reduceLeDiff, Nat.reduceLT, Nat.reduceEqDiff]
            cases out with
            | nil => exact go2 _ (j + 1, (x0 :: xr) ++ [0]) ⟨hlt2, hnext _ (hx)⟩ (by simp only; omega) (Wkn.to ⟨0, [(2, 1)], [], 2, [0, 1, 2, 7, 8, 9, 21, 22, 29, 30]⟩ rfl rfl (by simp [Wk.st, keepT, memN, Wk.fate, Wk.fate0, assoc, getE, Wk.hp, ABlk.sub, sub1, subs, free_Vo, S_ci, gA, gH, dropG, Eng.setB, subs_append, hfr]))
            | cons w0 wr =>
              have hf0 := fun φ => free_I φ w0
              have hfo := fun φ => free_L φ wr
              exact go2 _ (j + 1, (x0 :: xr) ++ [0]) ⟨hlt2, hnext _ (hx)⟩ (by simp only; omega) (Wkn.to ⟨0, [(2, 1), (0, 0)], [], 2, [0, 1, 2, 7, 8, 9, 21, 22, 29, 30]⟩ rfl rfl (by simp [Wk.st, keepT, memN, Wk.fate, Wk.fate0, assoc, getE, Wk.hp, ABlk.sub, sub1, subs, free_Vo, S_ci, gA, gH, dropG, Eng.setB, subs_append, hfr, hf0, hfo]))
            
    · have q1 : decide ((j : Int) < ((a.length + b.length : Nat) : Int)) = false := lt_f hlt2
      have hjn : j = a.length + b.length := by omega
      have m1 : (out.length + 1 ≤ maxLen) = True := mx (by omega)
      have m2 : ((out.length + 1) * 24 ≤ 140737488355328) = True := by simp only [eq_iff_iff, iff_true]; omega
      have hfr := fun φ => free_I φ row
      have hfo := fun φ => free_L φ out
      have hnext : out ++ [row] = lkM a b n (a.length + b.length) (i + 1) := by rw [lkM_s, hout, hrow, hjn]
      have hr0 : row ≠ [] := fun e => by rw [e] at hrl; simp at hrl; omega
      have t2 : ∀ r : L, (r.map eI).take r.length = r.map eI := fun r => by rw [List.take_of_length_le]; simp
      cases row with
      | nil => exact absurd rfl hr0
      | cons x row =>
        simp only [List.map_cons, List.map_nil, subs, List.cons.injEq] at hfr
        clear go2 hrow hrl hr0
        cases out with
        | nil =>
          have tz : (row.map eI).take row.length = row.map eI := t2 row
          simp only [List.map_cons, List.map_nil, subs, List.cons.injEq] at hfo
          simp only [List.length_nil, List.length_cons, Nat.zero_add] at m1 m2
          simp +contextual -implicitDefEqProofs (maxSteps := 2000000) only [S_ci, gA, gH, q1, e3, List.map_cons, List.map_nil, List.length_map, rs_nil, rs_t, rs_f, ag_nils, ag_sl, ag_vs, ag_str, ag_ptr, ag_nilp, ag_vp, ag_fun, m1, m2, ruB, rh_no, Int.reduceLT, Int.reduceLE, Int.reduceAdd, Int.reduceSub, Int.reduceMul, Int.reduceNeg, Int.reduceToNat, Int.reduceEq, Int.reduceNe, Int.reduceTDiv, Int.reduceTMod, implies_true, putL, appN, appX, appC, Eng.Fi, reduceCtorEq, exists_eq_left', exists_eq_left, if_true, if_false, List.replicate, Nat.reduceAdd, Nat.reduceSub, Nat.reduceMul, Nat.reduceLeDiff, Nat.reduceLT, Nat.reduceEqDiff]
          exact go _ (i + 1, [] ++ [x :: row]) ⟨hlt, hnext⟩ (by simp only; omega) (Wkn.to ⟨0, [(2, 0)], [1], 1, [0, 1, 2, 7, 21, 22]⟩ rfl rfl (by simp [Wk.st, keepT, memN, Wk.fate, Wk.fate0, assoc, getE, Wk.hp, ABlk.sub, sub1, subs, free_Vo, S_co, gA, gH, hfr, hfo, subs_append, tz, free_I]))
          
        | cons z0 zr =>
          have tz : (row.map eI).take row.length = row.map eI := t2 row
          simp only [List.map_cons, List.map_nil, subs, List.cons.injEq] at hfo
          simp only [List.length_nil, List.length_cons, Nat.zero_add] at m1 m2
          simp +contextual -implicitDefEqProofs (maxSteps := 2000000) only [S_ci, gA, gH, q1, e3, List.map_cons, List.map_nil, List.length_map, rs_nil, rs_t, rs_f, ag_nils, ag_sl, ag_vs, ag_str, ag_ptr, ag_nilp, ag_vp, ag_fun, m1, m2, ruB, rh_no, Int.reduceLT, Int.reduceLE, Int.reduceAdd, Int.reduceSub, Int.reduceMul, Int.reduceNeg, Int.reduceToNat, Int.reduceEq, Int.reduceNe, Int.reduceTDiv, Int.reduceTMod, implies_true, putL, appN, appX, appC, Eng.Fi, reduceCtorEq, exists_eq_left', exists_eq_left, if_true, if_false, List.replicate, Nat.reduceAdd, Nat.reduceSub, Nat.reduceMul, Nat.reduceLeDiff, Nat.reduceLT, Nat.reduceEqDiff]
          exact go _ (i + 1, (z0 :: zr) ++ [x :: row]) ⟨hlt, hnext⟩ (by simp only; omega) (Wkn.to ⟨0, [(2, 0)], [1], 1, [0, 1, 2, 7, 21, 22]⟩ rfl rfl (by simp [Wk.st, keepT, memN, Wk.fate, Wk.fate0, assoc, getE, Wk.hp, ABlk.sub, sub1, subs, free_Vo, S_co, gA, gH, hfr, hfo, subs_append, tz, free_I]))
          
  · have e1 : decide ((i : Int) < ((a.length + b.length : Nat) : Int)) = false := lt_f hlt
    have hin : i = a.length + b.length := by omega
    have hfo := fun φ => free_L φ out
    rw [lkL, ← hin]
    rw [← hin] at hout
    rw [← hout]
    have t2 : ∀ r : List L, (r.map eL).take r.length = r.map eL := fun r => by rw [List.take_of_length_le]; simp
    cases out with
    | nil =>
      simp only [List.map_cons, List.map_nil, subs, List.cons.injEq] at hfo
      simp +contextual -implicitDefEqProofs (maxSteps := 2000000) only [S_co, gA, gH, e1, List.map_nil, List.map_cons, List.length_map, t2, Nat.le_refl, hfo, ruB, rh_no, Int.reduceLT, Int.reduceLE, Int.reduceAdd, Int.reduceSub, Int.reduceMul, Int.reduceNeg, Int.reduceToNat, Int.reduceEq, Int.reduceNe, Int.reduceTDiv, Int.reduceTMod, implies_true, putL, appN, appX, appC, Eng.Fi, reduceCtorEq, exists_eq_left', exists_eq_left, if_true, if_false, List.replicate, Nat.reduceAdd, Nat.reduceSub, Nat.reduceMul, Nat.reduceLeDiff, Nat.reduceLT, Nat.reduceEqDiff]
      
    | cons x0 r0 =>
      simp only [List.map_cons, List.map_nil, subs, List.cons.injEq] at hfo
      simp +contextual -implicitDefEqProofs (maxSteps := 2000000) only [S_co, gA, gH, e1, List.map_nil, List.map_cons, List.length_map, t2, Nat.le_refl, hfo, ruB, rh_no, Int.reduceLT, Int.reduceLE, Int.reduceAdd, Int.reduceSub, Int.reduceMul, Int.reduceNeg, Int.reduceToNat, Int.reduceEq, Int.reduceNe, Int.reduceTDiv, Int.reduceTMod, implies_true, putL, appN, appX, appC, Eng.Fi, reduceCtorEq, exists_eq_left', exists_eq_left, if_true, if_false, List.replicate, Nat.reduceAdd, Nat.reduceSub, Nat.reduceMul, Nat.reduceLeDiff, Nat.reduceLT, Nat.reduceEqDiff]
      
end Wa
