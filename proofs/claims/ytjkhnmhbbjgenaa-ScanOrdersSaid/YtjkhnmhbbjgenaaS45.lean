import Derived.Test.YtjkhnmhbbjgenaaEngS9
import Derived.Test.YtjkhnmhbbjgenaaS44
open Go Go.Proofs Eng
set_option maxRecDepth 100000
set_option linter.unusedSimpArgs false
set_option linter.unusedVariables false
def a64 : AC := .seq (.ops false [] [⟨some 3, .box 42 7 1 true, [.t 0], none⟩, ⟨some 6, .p (.mov), [.c (.int .i64 0)], none⟩, ⟨some 7, .p (.mov), [.c (.int .i64 0)], none⟩]) (.seq (.seq (.ops false [] [⟨some 12, .p (.mov), [.t 2], none⟩, ⟨some 13, .p (.lenS), [.t 12], none⟩, ⟨some 14, .p (.mov), [.t 1], none⟩, ⟨some 15, .p (.lenS), [.t 14], none⟩, ⟨some 16, .p (.binI .neq), [.t 13, .t 15], none⟩]) (.cond (.t 16) (.seq (.ops false [] [⟨some 6, .p (.mov), [.c (.int .i64 0)], none⟩, ⟨some 7, .p (.mov), [.c (.int .i64 10)], none⟩]) (.ret)) (.skip))) (.seq (.seq (.ops false [] [⟨some 8, .p (.mov), [.c (.int .i64 0)], none⟩]) (.block 0 (.loop (.seq (.seq (.ops false [] [⟨some 17, .p (.mov), [.t 8], none⟩, ⟨some 18, .p (.mov), [.t 2], none⟩, ⟨some 19, .p (.lenS), [.t 18], none⟩, ⟨some 20, .p (.binI .lss), [.t 17, .t 19], none⟩]) (.cond (.t 20) (.skip) (.exit 0))) (.seq (.block 1 (.seq (.seq (.ops false [] [⟨some 23, .p (.mov), [.t 2], none⟩, ⟨some 24, .p (.mov), [.t 8], none⟩, ⟨some 25, .p (.iaddrS 1), [.t 23, .t 24], none⟩, ⟨some 26, .load 1 false, [.t 25], none⟩, ⟨some 27, .p (.mov), [.t 1], none⟩, ⟨some 28, .p (.lenS), [.t 27], none⟩, ⟨some 29, .p (.binI .sub), [.t 28, .c (.int .i64 1)], none⟩, ⟨some 30, .call 38, [.t 26, .c (.int .i64 0), .t 29], none⟩, ⟨some 31, .p (.notB), [.t 30], none⟩]) (.cond (.t 31) (.seq (.ops false [] [⟨some 6, .p (.mov), [.c (.int .i64 0)], none⟩, ⟨some 7, .p (.mov), [.c (.int .i64 6)], none⟩]) (.ret)) (.skip))) (.seq (.ops true [] [⟨some 32, .p (.mov), [.t 2], none⟩, ⟨some 33, .p (.mov), [.t 8], none⟩, ⟨some 34, .p (.slc 1 false true false), [.t 32, .t 33], none⟩, ⟨some 35, .p (.mov), [.t 2], none⟩, ⟨some 36, .p (.mov), [.t 8], none⟩, ⟨some 37, .p (.iaddrS 1), [.t 35, .t 36], none⟩, ⟨some 38, .load 1 false, [.t 37], none⟩, ⟨some 39, .call 112, [.t 34, .t 38], none⟩]) (.cond (.t 39) (.seq (.ops false [] [⟨some 6, .p (.mov), [.c (.int .i64 0)], none⟩, ⟨some 7, .p (.mov), [.c (.int .i64 21)], none⟩]) (.ret)) (.skip))))) (.ops false [] [⟨some 21, .p (.mov), [.t 8], none⟩, ⟨some 22, .p (.binI .add), [.t 21, .c (.int .i64 1)], none⟩, ⟨some 8, .p (.mov), [.t 22], none⟩])))))) (.seq (.ops false [] [⟨some 40, .p (.faddr 0), [.t 3], none⟩, ⟨some 41, .load 2 true, [.t 40], none⟩, ⟨some 9, .alloc 37 2 [.agg [.int .i64 0, .int .i64 0]], [], none⟩, ⟨none, .store 2 true, [.t 9, .t 41], none⟩, ⟨some 10, .p (.mov), [.c (.int .i64 0)], none⟩]) (.seq (.seq (.ops false [] [⟨some 11, .p (.mov), [.c (.int .i64 0)], none⟩]) (.block 2 (.loop (.seq (.seq (.ops false [] [⟨some 42, .p (.mov), [.t 11], none⟩, ⟨some 43, .p (.mov), [.t 2], none⟩, ⟨some 44, .p (.lenS), [.t 43], none⟩, ⟨some 45, .p (.binI .lss), [.t 42, .t 44], none⟩]) (.cond (.t 45) (.skip) (.exit 2))) (.seq (.block 3 (.seq (.seq (.ops true [] [⟨some 48, .load 7 true, [.t 3], none⟩, ⟨some 49, .load 2 true, [.t 9], none⟩, ⟨some 50, .p (.mov), [.t 1], none⟩, ⟨some 51, .p (.mov), [.t 2], none⟩, ⟨some 52, .p (.mov), [.t 11], none⟩, ⟨some 53, .p (.iaddrS 1), [.t 51, .t 52], none⟩, ⟨some 54, .load 1 false, [.t 53], none⟩, ⟨some 55, .p (.iaddrS 2), [.t 50, .t 54], none⟩, ⟨some 56, .load 2 true, [.t 55], none⟩, ⟨some 57, .call 71, [.t 48, .t 49, .t 56], none⟩, ⟨some 58, .p (.notB), [.t 57], none⟩]) (.cond (.t 58) (.seq (.ops false [] [⟨some 6, .p (.mov), [.c (.int .i64 0)], none⟩, ⟨some 7, .p (.mov), [.c (.int .i64 22)], none⟩]) (.ret)) (.skip))) (.seq (.ops true [] [⟨some 59, .p (.mov), [.t 10], none⟩, ⟨some 60, .load 7 true, [.t 3], none⟩, ⟨some 61, .load 2 true, [.t 9], none⟩, ⟨some 62, .p (.mov), [.t 1], none⟩, ⟨some 63, .p (.mov), [.t 2], none⟩, ⟨some 64, .p (.mov), [.t 11], none⟩, ⟨some 65, .p (.iaddrS 1), [.t 63, .t 64], none⟩, ⟨some 66, .load 1 false, [.t 65], none⟩, ⟨some 67, .p (.iaddrS 2), [.t 62, .t 66], none⟩, ⟨some 68, .load 2 true, [.t 67], none⟩, ⟨some 69, .call 70, [.t 60, .t 61, .t 68], none⟩, ⟨some 70, .p (.binI .add), [.t 59, .t 69], none⟩, ⟨some 10, .p (.mov), [.t 70], none⟩]) (.ops false [] [⟨some 71, .p (.mov), [.t 1], none⟩, ⟨some 72, .p (.mov), [.t 2], none⟩, ⟨some 73, .p (.mov), [.t 11], none⟩, ⟨some 74, .p (.iaddrS 1), [.t 72, .t 73], none⟩, ⟨some 75, .load 1 false, [.t 74], none⟩, ⟨some 76, .p (.iaddrS 2), [.t 71, .t 75], none⟩, ⟨some 77, .load 2 true, [.t 76], none⟩, ⟨none, .store 2 true, [.t 9, .t 77], none⟩])))) (.ops false [] [⟨some 46, .p (.mov), [.t 11], none⟩, ⟨some 47, .p (.binI .add), [.t 46, .c (.int .i64 1)], none⟩, ⟨some 11, .p (.mov), [.t 47], none⟩])))))) (.seq (.ops false [] [⟨some 78, .p (.mov), [.t 10], none⟩, ⟨some 6, .p (.mov), [.t 78], none⟩, ⟨some 7, .p (.mov), [.c (.int .i64 0)], none⟩]) (.ret))))))
theorem c64 : FnC Try.prog 64 79 a64 [.tmp 6, .tmp 7] := ⟨Try.call64, _, _, Try.func64, rfl, by kernel_rfl, by kernel_rfl, rfl⟩
namespace Sc
theorem coF_ne {N : Int} : ∀ (r : List Int) (e : Int) (s : List Int), e ≠ 0 → coF N e s r = e
  | [], e, s, h => rfl
  | i :: r, e, s, h => by
    rw [coF, fE3, if_neg h]
    exact coF_ne r e _ h
def S64a (h : Hd) (l : List Dr) (o : List Int) (n : Nat) : AState := ⟨[.any, .vs (l.map eDr), .vs (o.map eI), .ptr 0 7 0 0, .any, .any, .any, .any, I n, .any, .any, .any, .any, .any, .any, .any, .any, .any, .any, .any, .any, .any, .any, .any, .any, .any, .any, .any, .any, .any, .any, .any, .any, .any, .any, .any, .any, .any, .any, .any, .any, .any, .any, .any, .any, .any, .any, .any, .any, .any, .any, .any, .any, .any, .any, .any, .any, .any, .any, .any, .any, .any, .any, .any, .any, .any, .any, .any, .any, .any, .any, .any, .any, .any, .any, .any, .any, .any, .any], [⟨0, 0, .rows 42 7 [eHd h]⟩], 1⟩
def S64b (h : Hd) (l : List Dr) (o : List Int) (p : Nat × Int × Dr) : AState := ⟨[.any, .vs (l.map eDr), .vs (o.map eI), .ptr 0 7 0 0, .any, .any, .any, .any, .any, .ptr 1 2 0 0, I p.2.1, I p.1, .any, .any, .any, .any, .any, .any, .any, .any, .any, .any, .any, .any, .any, .any, .any, .any, .any, .any, .any, .any, .any, .any, .any, .any, .any, .any, .any, .any, .any, .any, .any, .any, .any, .any, .any, .any, .any, .any, .any, .any, .any, .any, .any, .any, .any, .any, .any, .any, .any, .any, .any, .any, .any, .any, .any, .any, .any, .any, .any, .any, .any, .any, .any, .any, .any, .any, .any], [⟨1, 1, .rows 37 2 [eDr p.2.2]⟩, ⟨0, 0, .rows 42 7 [eHd h]⟩], 2⟩
theorem k_rOrderErr (h : Hd) (l : List Dr) (o : List Int) (hc : opE h l = 0 ∧ o.length ≤ 1000) : FOk P 64 [eHd h, .vs (l.map eDr), .vs (o.map eI)] (coV h l o) := by
  obtain ⟨h0, hol⟩ := hc
  obtain ⟨⟨⟨hh, h6⟩, hds⟩, hpos⟩ := opE_z h0
  simp only at hh h6 hds
  have hz := hdE_zero hh
  have hmb : ∀ a b, drR a → drR b → mvB h a b := fun a b ha hb => ⟨⟨hz.1.1.2.1, hz.1.1.2.2⟩, ha, hb⟩
  have hlb : ∀ a b, drR a → drR b → liB h a b := fun a b ha hb => ⟨⟨by have := hz.1.2; omega, fun s hs => (hz.2.1 s hs).1⟩, ha, hb⟩
  have w1 : IntKind.wrap .i64 ((l.length : Int) - 1) = (l.length : Int) - 1 := wrap64 (by omega) (by omega)
  by_cases hlen : (o.length : Int) = (l.length : Int)
  · have hlen' := eq_true hlen
    have hcE : coE h l o = coF l.length 0 [] o := by unfold coE; rw [fE2', if_pos h0, unl_t 10 hlen]
    refine c64.fok (by simp only [free_Hs, subs, sub1, free_Se, free_Dr, free_I]) (Cor.run (addC_good g_rIsDark (addC_good g_rMove (addC_good g_Has (addC_good g_Within (noC_good _))))) (noHx_good _) hm ?_)
    simp +contextual -implicitDefEqProofs (maxSteps := 2000000) only [bg_eq, a64, List.length_map, hlen', not_true_eq_false, ruB, rh_no, Int.reduceLT, Int.reduceLE, Int.reduceAdd, Int.reduceSub, Int.reduceMul, Int.reduceNeg, Int.reduceToNat, Int.reduceEq, Int.reduceNe, Int.reduceTDiv, Int.reduceTMod, implies_true, putL, appN, appX, appC, Eng.Fi, reduceCtorEq, exists_eq_left', exists_eq_left, if_true, if_false, List.replicate, Nat.reduceAdd, Nat.reduceSub, Nat.reduceMul, Nat.reduceLeDiff, Nat.reduceLT, Nat.reduceEqDiff]
    refine Cor.lp (addC_good g_rIsDark (addC_good g_rMove (addC_good g_Has (addC_good g_Within (noC_good _))))) (noHx_good _) hm (S64a h l o) (fun n => n ≤ o.length ∧ coE h l o = coF l.length 0 (o.take n) (o.drop n)) (fun n => o.length - n) (a := 0) ⟨Nat.zero_le _, hcE⟩ (Wkn.to ⟨0, [(0, 0)], [], 1, [1, 2, 3, 8]⟩ rfl rfl (by simp [Wk.st, keepT, memN, Wk.fate, Wk.fate0, assoc, getE, Wk.hp, ABlk.sub, sub1, subs, S64a, free_Se, free_Dr, free_I])) ?_
    rintro f n ⟨hn, hf⟩ go
    rcases Nat.lt_or_ge n o.length with hlt | hlt
    · have e1 : decide ((n : Int) < (o.length : Int)) = true := lt_t hlt
      have e2 : (o.map eI)[n]? = some (eI o[n]) := get_e eI o hlt
      have e3 : IntKind.wrap .i64 ((n : Int) + 1) = ((n + 1 : Nat) : Int) := suc_w (by omega)
      have htk : o.take (n + 1) = o.take n ++ [o[n]] := List.take_succ_eq_append_getElem hlt
      have yc := x_Has (o.take n) o[n] (by simp only [eq_iff_iff, iff_true, List.length_take]; omega)
      rw [List.map_take] at yc
      rw [List.drop_eq_getElem_cons hlt, coF, fE3, fE2', if_pos rfl] at hf
      generalize o[n] = i at *
      have b1 : (n ≤ o.length) = True := by simp only [eq_iff_iff, iff_true]; omega
      by_cases q1 : 0 ≤ i ∧ i ≤ (l.length : Int) - 1
      · have q1' : decide (0 ≤ i ∧ i ≤ (l.length : Int) - 1) = true := decide_eq_true q1
        rw [unl_t 6 q1, if_pos rfl] at hf
        have yw := x_Within i 0 ((l.length : Int) - 1)
        rw [q1'] at yw
        by_cases q2 : i ∈ o.take n
        · have q2' : decide (i ∈ o.take n) = true := decide_eq_true q2
          rw [q2'] at yc
          rw [unl_f 21 (fun x => x q2), coF_ne _ _ _ (by decide)] at hf
          rw [coV, hf, if_neg (by decide)]
          simp +contextual -implicitDefEqProofs (maxSteps := 2000000) only [S64a, e1, e2, e3, w1, b1, yc, yw, List.length_map, ruB, rh_no, Int.reduceLT, Int.reduceLE, Int.reduceAdd, Int.reduceSub, Int.reduceMul, Int.reduceNeg, Int.reduceToNat, Int.reduceEq, Int.reduceNe, Int.reduceTDiv, Int.reduceTMod, implies_true, putL, appN, appX, appC, Eng.Fi, reduceCtorEq, exists_eq_left', exists_eq_left, if_true, if_false, List.replicate, Nat.reduceAdd, Nat.reduceSub, Nat.reduceMul, Nat.reduceLeDiff, Nat.reduceLT, Nat.reduceEqDiff]
        · have q2' : decide (i ∈ o.take n) = false := decide_eq_false q2
          rw [q2'] at yc
          rw [unl_t 21 q2] at hf
          simp +contextual -implicitDefEqProofs (maxSteps := 2000000) only [S64a, e1, e2, e3, w1, b1, yc, yw, List.length_map, ruB, rh_no, Int.reduceLT, Int.reduceLE, Int.reduceAdd, Int.reduceSub, Int.reduceMul, Int.reduceNeg, Int.reduceToNat, Int.reduceEq, Int.reduceNe, Int.reduceTDiv, Int.reduceTMod, implies_true, putL, appN, appX, appC, Eng.Fi, reduceCtorEq, exists_eq_left', exists_eq_left, if_true, if_false, List.replicate, Nat.reduceAdd, Nat.reduceSub, Nat.reduceMul, Nat.reduceLeDiff, Nat.reduceLT, Nat.reduceEqDiff]
          exact go _ (n + 1) ⟨hlt, by rw [htk]; exact hf⟩ (by omega) (Wkn.to ⟨0, [(0, 0)], [], 1, [1, 2, 3, 8]⟩ rfl rfl (by simp [Wk.st, keepT, memN, Wk.fate, Wk.fate0, assoc, getE, Wk.hp, ABlk.sub, sub1, subs, S64a, free_Se, free_Dr, free_I]))
      · have q1' : decide (0 ≤ i ∧ i ≤ (l.length : Int) - 1) = false := decide_eq_false q1
        rw [unl_f 6 q1, if_neg (by decide), coF_ne _ _ _ (by decide)] at hf
        have yw := x_Within i 0 ((l.length : Int) - 1)
        rw [q1'] at yw
        rw [coV, hf, if_neg (by decide)]
        simp +contextual -implicitDefEqProofs (maxSteps := 2000000) only [S64a, e1, e2, e3, w1, b1, yw, List.length_map, ruB, rh_no, Int.reduceLT, Int.reduceLE, Int.reduceAdd, Int.reduceSub, Int.reduceMul, Int.reduceNeg, Int.reduceToNat, Int.reduceEq, Int.reduceNe, Int.reduceTDiv, Int.reduceTMod, implies_true, putL, appN, appX, appC, Eng.Fi, reduceCtorEq, exists_eq_left', exists_eq_left, if_true, if_false, List.replicate, Nat.reduceAdd, Nat.reduceSub, Nat.reduceMul, Nat.reduceLeDiff, Nat.reduceLT, Nat.reduceEqDiff]
    · have e1 : decide ((n : Int) < (o.length : Int)) = false := lt_f hlt
      rw [List.drop_eq_nil_of_le hlt, coF] at hf
      have hz0 : coF l.length 0 [] o = 0 := by rw [← hcE, hf]
      obtain ⟨_, z2, _, _⟩ := coF_zero hz0
      rw [coV, if_pos hf]
      simp +contextual -implicitDefEqProofs (maxSteps := 2000000) only [S64a, e1, List.length_map, ruB, rh_no, Int.reduceLT, Int.reduceLE, Int.reduceAdd, Int.reduceSub, Int.reduceMul, Int.reduceNeg, Int.reduceToNat, Int.reduceEq, Int.reduceNe, Int.reduceTDiv, Int.reduceTMod, implies_true, putL, appN, appX, appC, Eng.Fi, reduceCtorEq, exists_eq_left', exists_eq_left, if_true, if_false, List.replicate, Nat.reduceAdd, Nat.reduceSub, Nat.reduceMul, Nat.reduceLeDiff, Nat.reduceLT, Nat.reduceEqDiff]
      refine Cor.lp (addC_good g_rIsDark (addC_good g_rMove (addC_good g_Has (addC_good g_Within (noC_good _))))) (noHx_good _) hm (S64b h l o) (fun p => (p.1 ≤ o.length ∧ (0 ≤ p.2.1 ∧ p.2.1 ≤ p.1 * 450) ∧ drR p.2.2) ∧ tcG ⟨h, l⟩ 0 h.home o = tcG ⟨h, l⟩ p.2.1 p.2.2 (o.drop p.1)) (fun p => o.length - p.1) (a := (0, 0, h.home)) ⟨⟨Nat.zero_le _, by simp, hz.1.1.1⟩, rfl⟩ (Wkn.to ⟨0, [(0, 0), (1, 1)], [], 2, [1, 2, 3, 9, 10, 11]⟩ rfl rfl (by simp [Wk.st, keepT, memN, Wk.fate, Wk.fate0, assoc, getE, Wk.hp, ABlk.sub, sub1, subs, S64b, free_Se, free_Dr, free_I])) ?_
      rintro f2 ⟨n2, t, d⟩ ⟨⟨hn2, ⟨ht1, ht2⟩, hd⟩, hf2⟩ go2
      simp only at hn2 ht1 ht2 hd hf2
      rcases Nat.lt_or_ge n2 o.length with hlt2 | hlt2
      · have r1 : decide ((n2 : Int) < (o.length : Int)) = true := lt_t hlt2
        have r2 : (o.map eI)[n2]? = some (eI o[n2]) := get_e eI o hlt2
        have r3 : IntKind.wrap .i64 ((n2 : Int) + 1) = ((n2 + 1 : Nat) : Int) := suc_w (by omega)
        have hk := z2 o[n2] (by simp)
        rw [List.drop_eq_getElem_cons hlt2, tcG] at hf2
        generalize o[n2] = k at *
        obtain ⟨m, rfl⟩ : ∃ m : Nat, k = (m : Int) := ⟨k.toNat, by omega⟩
        have hm2 : m < l.length := by omega
        have r4 : (l.map eDr)[m]? = some (eDr l[m]) := get_e eDr l hm2
        have hx := hds l[m] (by simp)
        rw [Int.toNat_natCast] at hf2
        simp only at hf2
        rw [List.getElem?_eq_getElem hm2] at hf2
        generalize l[m] = x at *
        simp only at hf2
        have yd := x_rIsDark h d x (by simp only [hlb _ _ hd hx])
        have ym := x_rMove h d x (by simp only [hmb _ _ hd hx])
        have hb := mvT_bd (hmb _ _ hd hx)
        have tp : ((n2 + 1 : Nat) : Int) * 450 = (n2 : Int) * 450 + 450 := by omega
        have w2 : IntKind.wrap .i64 (t + mvT h d x) = t + mvT h d x := wrap64 (by omega) (by omega)
        cases hlit : litL h d x with
        | some u =>
          rw [hlit] at yd hf2
          simp only at hf2
          simp only [Option.isNone] at yd
          rw [hf2]
          simp +contextual -implicitDefEqProofs (maxSteps := 2000000) only [S64b, r1, r2, r3, r4, yd, List.length_map, ruB, rh_no, Int.reduceLT, Int.reduceLE, Int.reduceAdd, Int.reduceSub, Int.reduceMul, Int.reduceNeg, Int.reduceToNat, Int.reduceEq, Int.reduceNe, Int.reduceTDiv, Int.reduceTMod, implies_true, putL, appN, appX, appC, Eng.Fi, reduceCtorEq, exists_eq_left', exists_eq_left, if_true, if_false, List.replicate, Nat.reduceAdd, Nat.reduceSub, Nat.reduceMul, Nat.reduceLeDiff, Nat.reduceLT, Nat.reduceEqDiff]
        | none =>
          rw [hlit] at yd hf2
          simp only at hf2
          simp only [Option.isNone] at yd
          simp +contextual -implicitDefEqProofs (maxSteps := 2000000) only [S64b, r1, r2, r3, r4, yd, ym, w2, List.length_map, ruB, rh_no, Int.reduceLT, Int.reduceLE, Int.reduceAdd, Int.reduceSub, Int.reduceMul, Int.reduceNeg, Int.reduceToNat, Int.reduceEq, Int.reduceNe, Int.reduceTDiv, Int.reduceTMod, implies_true, putL, appN, appX, appC, Eng.Fi, reduceCtorEq, exists_eq_left', exists_eq_left, if_true, if_false, List.replicate, Nat.reduceAdd, Nat.reduceSub, Nat.reduceMul, Nat.reduceLeDiff, Nat.reduceLT, Nat.reduceEqDiff]
          exact go2 _ (n2 + 1, t + mvT h d x, x) ⟨⟨hlt2, by simp only; omega, hx⟩, hf2⟩ (by simp only; omega) (Wkn.to ⟨0, [(0, 0), (1, 1)], [], 2, [1, 2, 3, 9, 10, 11]⟩ rfl rfl (by simp [Wk.st, keepT, memN, Wk.fate, Wk.fate0, assoc, getE, Wk.hp, ABlk.sub, sub1, subs, S64b, free_Se, free_Dr, free_I]))
      · have r1 : decide ((n2 : Int) < (o.length : Int)) = false := lt_f hlt2
        rw [List.drop_eq_nil_of_le hlt2, tcG] at hf2
        rw [hf2]
        simp +contextual -implicitDefEqProofs (maxSteps := 2000000) only [S64b, r1, List.length_map, ruB, rh_no, Int.reduceLT, Int.reduceLE, Int.reduceAdd, Int.reduceSub, Int.reduceMul, Int.reduceNeg, Int.reduceToNat, Int.reduceEq, Int.reduceNe, Int.reduceTDiv, Int.reduceTMod, implies_true, putL, appN, appX, appC, Eng.Fi, reduceCtorEq, exists_eq_left', exists_eq_left, if_true, if_false, List.replicate, Nat.reduceAdd, Nat.reduceSub, Nat.reduceMul, Nat.reduceLeDiff, Nat.reduceLT, Nat.reduceEqDiff]
  · have hlen' := eq_false hlen
    have hcE : coE h l o = 10 := by unfold coE; rw [fE2', if_pos h0, unl_f 10 hlen, coF_ne _ _ _ (by decide)]
    rw [coV, hcE, if_neg (by decide)]
    refine c64.fok (by simp only [free_Hs, subs, sub1, free_Se, free_Dr, free_I]) (Cor.run (addC_good g_rIsDark (addC_good g_rMove (addC_good g_Has (addC_good g_Within (noC_good _))))) (noHx_good _) hm ?_)
    simp +contextual -implicitDefEqProofs (maxSteps := 2000000) only [bg_eq, a64, List.length_map, hlen', not_false_eq_true, ruB, rh_no, Int.reduceLT, Int.reduceLE, Int.reduceAdd, Int.reduceSub, Int.reduceMul, Int.reduceNeg, Int.reduceToNat, Int.reduceEq, Int.reduceNe, Int.reduceTDiv, Int.reduceTMod, implies_true, putL, appN, appX, appC, Eng.Fi, reduceCtorEq, exists_eq_left', exists_eq_left, if_true, if_false, List.replicate, Nat.reduceAdd, Nat.reduceSub, Nat.reduceMul, Nat.reduceLeDiff, Nat.reduceLT, Nat.reduceEqDiff]
def cf_rOrderErr : List AV → Option AV
  | [h_v, .vs l_v, .vs o_v] => onH h_v fun h => onL dDr l_v fun l => onL dI o_v fun o => if opE h l = 0 ∧ o.length ≤ 1000 then some (coV h l o) else none
  | _ => none
theorem g_rOrderErr : Fn P 64 cf_rOrderErr := fun args v hh => by
  unfold cf_rOrderErr at hh; split at hh
  · obtain ⟨h, rfl, hh1⟩ := onH_inv hh
    obtain ⟨l, rfl, hh2⟩ := onL_inv dDr_inv hh1
    obtain ⟨o, rfl, hh3⟩ := onL_inv dI_inv hh2
    split at hh3
    · rename_i hc; have hk := Option.some.inj hh3; subst hk; exact k_rOrderErr _ _ _ hc
    · cases hh3
  · cases hh
theorem x_rOrderErr (h : Hd) (l : List Dr) (o : List Int) (hc : (opE h l = 0 ∧ o.length ≤ 1000) = True) : cf_rOrderErr [eHd h, .vs (l.map eDr), .vs (o.map eI)] = some (coV h l o) := by
  simp only [cf_rOrderErr, onH_e, onL_map dDr_e, onL_map dI_e]
  exact if_pos (by rw [hc]; trivial)
end Sc
