import Derived.Test.YtjkhnmhbbjgenaaEngS9
import Derived.Test.YtjkhnmhbbjgenaaS43
open Go Go.Proofs Eng
set_option maxRecDepth 100000
set_option linter.unusedSimpArgs false
set_option linter.unusedVariables false
def a65 : AC := .seq (.ops false [] [⟨some 2, .box 42 7 1 true, [.t 0], none⟩, ⟨some 4, .p (.mov), [.c (.int .i64 0)], none⟩]) (.seq (.ops false [] [⟨some 10, .load 7 true, [.t 2], none⟩, ⟨some 11, .p (.mov), [.t 1], none⟩, ⟨some 12, .call 111, [.t 10, .t 11], none⟩, ⟨some 5, .alloc 155 98 [.agg [.int .i64 0, .int .i64 0, .int .i64 0, .int .i64 0, .int .i64 0, .int .i64 0, .int .i64 0, .int .i64 0, .int .i64 0, .int .i64 0, .int .i64 0, .int .i64 0, .int .i64 0, .int .i64 0, .int .i64 0, .int .i64 0, .int .i64 0, .int .i64 0, .int .i64 0, .int .i64 0, .int .i64 0, .int .i64 0, .int .i64 0, .int .i64 0, .int .i64 0, .int .i64 0, .int .i64 0, .int .i64 0, .int .i64 0, .int .i64 0, .int .i64 0, .int .i64 0, .int .i64 0, .int .i64 0, .int .i64 0, .int .i64 0, .int .i64 0, .int .i64 0, .int .i64 0, .int .i64 0, .int .i64 0, .int .i64 0, .int .i64 0, .int .i64 0, .int .i64 0, .int .i64 0, .int .i64 0, .int .i64 0, .int .i64 0, .bool false, .bool false, .bool false, .bool false, .bool false, .bool false, .bool false, .bool false, .bool false, .bool false, .bool false, .bool false, .bool false, .bool false, .bool false, .bool false, .bool false, .bool false, .bool false, .bool false, .bool false, .bool false, .bool false, .bool false, .bool false, .bool false, .bool false, .bool false, .bool false, .bool false, .bool false, .bool false, .bool false, .bool false, .bool false, .bool false, .bool false, .bool false, .bool false, .bool false, .bool false, .bool false, .bool false, .bool false, .bool false, .bool false, .bool false, .bool false, .bool false]], [], none⟩, ⟨none, .store 98 true, [.t 5, .t 12], none⟩]) (.seq (.ops false [] [⟨some 6, .p (.mov), [.c (.int .i64 0)], none⟩]) (.seq (.seq (.ops false [] [⟨some 7, .p (.mov), [.c (.int .i64 0)], none⟩]) (.block 0 (.loop (.seq (.seq (.ops false [] [⟨some 13, .p (.mov), [.t 7], none⟩, ⟨some 14, .p (.mov), [.t 1], none⟩, ⟨some 15, .p (.lenS), [.t 14], none⟩, ⟨some 16, .p (.binI .lss), [.t 13, .t 15], none⟩]) (.cond (.t 16) (.skip) (.exit 0))) (.seq (.block 1 (.seq (.ops false [] [⟨some 19, .p (.mov), [.t 1], none⟩, ⟨some 20, .p (.lenS), [.t 19], none⟩, ⟨some 21, .p (.mov), [.t 7], none⟩, ⟨some 22, .p (.faddr 0), [.t 5], none⟩, ⟨some 23, .p (.iaddrA 7 7), [.t 22, .t 20], none⟩, ⟨some 24, .p (.iaddrA 7 1), [.t 23, .t 21], none⟩, ⟨some 25, .load 1 false, [.t 24], none⟩, ⟨some 8, .p (.mov), [.t 25], none⟩]) (.seq (.seq (.ops false [] [⟨some 9, .p (.mov), [.c (.int .i64 0)], none⟩]) (.block 2 (.loop (.seq (.seq (.ops false [] [⟨some 26, .p (.mov), [.t 9], none⟩, ⟨some 27, .p (.mov), [.t 1], none⟩, ⟨some 28, .p (.lenS), [.t 27], none⟩, ⟨some 29, .p (.binI .lss), [.t 26, .t 28], none⟩]) (.cond (.t 29) (.skip) (.exit 2))) (.seq (.block 3 (.seq (.ops false [] [⟨some 32, .p (.mov), [.t 9], none⟩, ⟨some 33, .p (.mov), [.t 7], none⟩, ⟨some 34, .p (.binI .neq), [.t 32, .t 33], none⟩]) (.cond (.t 34) (.ops false [] [⟨some 35, .p (.mov), [.t 8], none⟩, ⟨some 36, .p (.mov), [.t 9], none⟩, ⟨some 37, .p (.mov), [.t 7], none⟩, ⟨some 38, .p (.faddr 0), [.t 5], none⟩, ⟨some 39, .p (.iaddrA 7 7), [.t 38, .t 36], none⟩, ⟨some 40, .p (.iaddrA 7 1), [.t 39, .t 37], none⟩, ⟨some 41, .load 1 false, [.t 40], none⟩, ⟨some 42, .p (.mm false), [.t 35, .t 41], none⟩, ⟨some 8, .p (.mov), [.t 42], none⟩]) (.skip)))) (.ops false [] [⟨some 30, .p (.mov), [.t 9], none⟩, ⟨some 31, .p (.binI .add), [.t 30, .c (.int .i64 1)], none⟩, ⟨some 9, .p (.mov), [.t 31], none⟩])))))) (.ops false [] [⟨some 43, .p (.mov), [.t 6], none⟩, ⟨some 44, .p (.mov), [.t 8], none⟩, ⟨some 45, .p (.binI .add), [.t 43, .t 44], none⟩, ⟨some 6, .p (.mov), [.t 45], none⟩])))) (.ops false [] [⟨some 17, .p (.mov), [.t 7], none⟩, ⟨some 18, .p (.binI .add), [.t 17, .c (.int .i64 1)], none⟩, ⟨some 7, .p (.mov), [.t 18], none⟩])))))) (.seq (.ops false [] [⟨some 46, .p (.mov), [.t 6], none⟩, ⟨some 4, .p (.mov), [.t 46], none⟩]) (.ret)))))
theorem c65 : FnC Try.prog 65 47 a65 [.tmp 4] := ⟨Try.call65, _, _, Try.func65, rfl, by kernel_rfl, by kernel_rfl, rfl⟩
def a112 : AC := .seq (.ops false [] [⟨some 4, .p (.mov), [.c (.bool false)], none⟩]) (.seq (.seq (.ops false [] [⟨some 5, .p (.mov), [.c (.int .i64 0)], none⟩]) (.block 0 (.loop (.seq (.seq (.ops false [] [⟨some 6, .p (.mov), [.t 5], none⟩, ⟨some 7, .p (.mov), [.t 0], none⟩, ⟨some 8, .p (.lenS), [.t 7], none⟩, ⟨some 9, .p (.binI .lss), [.t 6, .t 8], none⟩]) (.cond (.t 9) (.skip) (.exit 0))) (.seq (.block 1 (.seq (.ops false [] [⟨some 12, .p (.mov), [.t 0], none⟩, ⟨some 13, .p (.mov), [.t 5], none⟩, ⟨some 14, .p (.iaddrS 1), [.t 12, .t 13], none⟩, ⟨some 15, .load 1 false, [.t 14], none⟩, ⟨some 16, .p (.mov), [.t 1], none⟩, ⟨some 17, .p (.binI .eql), [.t 15, .t 16], none⟩]) (.cond (.t 17) (.seq (.ops false [] [⟨some 4, .p (.mov), [.c (.bool true)], none⟩]) (.ret)) (.skip)))) (.ops false [] [⟨some 10, .p (.mov), [.t 5], none⟩, ⟨some 11, .p (.binI .add), [.t 10, .c (.int .i64 1)], none⟩, ⟨some 5, .p (.mov), [.t 11], none⟩])))))) (.seq (.ops false [] [⟨some 4, .p (.mov), [.c (.bool false)], none⟩]) (.ret)))
theorem c112 : FnC Try.prog 112 18 a112 [.tmp 4] := ⟨Try.call112, _, _, Try.func112, rfl, by kernel_rfl, by kernel_rfl, rfl⟩
namespace Sc
theorem pA_tk (h : Hd) (l : List Dr) {a b : Nat} (ha : a ≤ l.length) (hb : b < l.length) (h6 : l.length ≤ 6) : (pA h l (l.length + 1) 0)[a * 7 + b]? = some (I (mvT h (pS h l a) (pS h l b))) := by
  unfold pA
  rw [pC_get1 _ _ (by omega) (by omega)]
  have e1 : pD l (l.length + 1) 0 a b := by unfold pD; omega
  unfold pF
  rw [if_pos e1]
theorem pA_dk (h : Hd) (l : List Dr) {a b : Nat} (ha : a ≤ l.length) (hb : b < l.length) (h6 : l.length ≤ 6) : (pA h l (l.length + 1) 0)[49 + a * 7 + b]? = some (AV.bool (litL h (pS h l a) (pS h l b)).isNone) := by
  unfold pA
  rw [pC_get2 _ _ (by omega) (by omega)]
  have e1 : pD l (l.length + 1) 0 a b := by unfold pD; omega
  unfold pG
  rw [if_pos e1]
theorem pS_lt (h : Hd) (l : List Dr) {a : Nat} (ha : a < l.length) : pS h l a = l[a] := by
  unfold pS; rw [List.getElem?_eq_getElem ha]; rfl
theorem pS_n (h : Hd) (l : List Dr) : pS h l l.length = h.home := by
  unfold pS; rw [List.getElem?_eq_none (Nat.le_refl _)]; rfl
def S65a (h : Hd) (l : List Dr) (p : Nat × Int) : AState := ⟨[.any, .vs (l.map eDr), .any, .any, .any, .ptr 1 98 0 0, I p.2, I p.1, .any, .any, .any, .any, .any, .any, .any, .any, .any, .any, .any, .any, .any, .any, .any, .any, .any, .any, .any, .any, .any, .any, .any, .any, .any, .any, .any, .any, .any, .any, .any, .any, .any, .any, .any, .any, .any, .any, .any], [⟨1, 1, .rows 155 98 [.agg (pA h l (l.length + 1) 0)]⟩, ⟨0, 0, .rows 42 7 [eHd h]⟩], 2⟩
def S65b (h : Hd) (l : List Dr) (i : Nat) (s : Int) (p : Nat × Int) : AState := ⟨[.any, .vs (l.map eDr), .any, .any, .any, .ptr 1 98 0 0, I s, I i, I p.2, I p.1, .any, .any, .any, .any, .any, .any, .any, .any, .any, .any, .any, .any, .any, .any, .any, .any, .any, .any, .any, .any, .any, .any, .any, .any, .any, .any, .any, .any, .any, .any, .any, .any, .any, .any, .any, .any, .any], [⟨1, 1, .rows 155 98 [.agg (pA h l (l.length + 1) 0)]⟩, ⟨0, 0, .rows 42 7 [eHd h]⟩], 2⟩
theorem k_rBound (h : Hd) (l : List Dr) (hc : kQ h l) : FOk P 65 [eHd h, .vs (l.map eDr)] (I (bdG h l 0 0 l)) := by
  have y := x_rpaths h l (by simp only [hc])
  obtain ⟨⟨hh, h6⟩, hds⟩ := hc
  simp only at hh h6 hds
  have hz := hdE_zero hh
  have hmb : ∀ a b, drR a → drR b → mvB h a b := fun a b ha hb => ⟨⟨hz.1.1.2.1, hz.1.1.2.2⟩, ha, hb⟩
  have zl := pC_zero.trans (pA_zero h l)
  refine c65.fok (by simp only [free_Hs, subs, sub1, free_Se, free_Dr]) (Cor.run (addC_good g_rpaths (noC_good _)) (noHx_good _) hm ?_)
  simp only [a65, zl]
  clear zl
  simp +contextual -implicitDefEqProofs (maxSteps := 2000000) only [bg_eq, y, pV, pA_len, free_pA, pA_sc, ruB, rh_no, Int.reduceLT, Int.reduceLE, Int.reduceAdd, Int.reduceSub, Int.reduceMul, Int.reduceNeg, Int.reduceToNat, Int.reduceEq, Int.reduceNe, Int.reduceTDiv, Int.reduceTMod, implies_true, putL, appN, appX, appC, Eng.Fi, reduceCtorEq, exists_eq_left', exists_eq_left, if_true, if_false, List.replicate, Nat.reduceAdd, Nat.reduceSub, Nat.reduceMul, Nat.reduceLeDiff, Nat.reduceLT, Nat.reduceEqDiff]
  refine Cor.lp (addC_good g_rpaths (noC_good _)) (noHx_good _) hm (S65a h l) (fun p => (p.1 ≤ l.length ∧ 0 ≤ p.2 ∧ p.2 ≤ p.1 * 450) ∧ bdG h l 0 0 l = bdG h l p.2 p.1 (l.drop p.1)) (fun p => l.length - p.1) (a := (0, 0)) ⟨⟨Nat.zero_le _, by simp, by simp⟩, rfl⟩ (Wkn.to ⟨0, [(0, 0), (1, 1)], [], 2, [1, 5, 6, 7]⟩ rfl rfl (by simp [Wk.st, keepT, memN, Wk.fate, Wk.fate0, assoc, getE, Wk.hp, ABlk.sub, sub1, subs, S65a, free_Se, free_Dr, free_pA])) ?_
  rintro f ⟨i, s⟩ ⟨⟨hi, hs1, hs2⟩, hf⟩ go
  simp only at hi hs1 hs2 hf
  rcases Nat.lt_or_ge i l.length with hlt | hlt
  · have e1 : decide ((i : Int) < (l.length : Int)) = true := lt_t hlt
    have e3 : IntKind.wrap .i64 ((i : Int) + 1) = ((i + 1 : Nat) : Int) := suc_w (by omega)
    have hd := hds l[i] (by simp)
    have g1 := pA_tk h l (Nat.le_refl _) hlt h6
    have g2 := fun (k : Nat) (hk : k < l.length) => pA_tk h l (Nat.le_of_lt hk) hlt h6
    rw [pS_n, pS_lt h l hlt] at g1
    rw [pS_lt h l hlt] at g2
    rw [List.drop_eq_getElem_cons hlt, bdG] at hf
    generalize l[i] = d at *
    have hb0 := mvT_bd (hmb _ _ hz.1.1.1 hd)
    have tp : ((i + 1 : Nat) : Int) * 450 = (i : Int) * 450 + 450 := by omega
    have b1 : (i < 7) = True := eq_true (by omega)
    have b2 : (l.length < 7) = True := eq_true (by omega)
    simp +contextual -implicitDefEqProofs (maxSteps := 2000000) only [S65a, e1, g1, b1, b2, List.length_map, Nat.mul_one, pA_len, ruB, rh_no, Int.reduceLT, Int.reduceLE, Int.reduceAdd, Int.reduceSub, Int.reduceMul, Int.reduceNeg, Int.reduceToNat, Int.reduceEq, Int.reduceNe, Int.reduceTDiv, Int.reduceTMod, implies_true, putL, appN, appX, appC, Eng.Fi, reduceCtorEq, exists_eq_left', exists_eq_left, if_true, if_false, List.replicate, Nat.reduceAdd, Nat.reduceSub, Nat.reduceMul, Nat.reduceLeDiff, Nat.reduceLT, Nat.reduceEqDiff]
    refine Cor.lp (addC_good g_rpaths (noC_good _)) (noHx_good _) hm (S65b h l i s) (fun p => (p.1 ≤ l.length ∧ 0 ≤ p.2 ∧ p.2 ≤ 450) ∧ bmG h d i (mvT h h.home d) 0 l = bmG h d i p.2 p.1 (l.drop p.1)) (fun p => l.length - p.1) (a := (0, mvT h h.home d)) ⟨⟨Nat.zero_le _, hb0⟩, rfl⟩ (Wkn.to ⟨0, [(0, 0), (1, 1)], [], 2, [1, 5, 6, 7, 8, 9]⟩ rfl rfl (by simp [Wk.st, keepT, memN, Wk.fate, Wk.fate0, assoc, getE, Wk.hp, ABlk.sub, sub1, subs, S65b, free_Se, free_Dr, free_pA])) ?_
    rintro f2 ⟨k, a⟩ ⟨⟨hk, ha1, ha2⟩, hfk⟩ go2
    simp only at hk ha1 ha2 hfk
    rcases Nat.lt_or_ge k l.length with hlt2 | hlt2
    · have q1 : decide ((k : Int) < (l.length : Int)) = true := lt_t hlt2
      have q3 : IntKind.wrap .i64 ((k : Int) + 1) = ((k + 1 : Nat) : Int) := suc_w (by omega)
      have b3 : (k < 7) = True := eq_true (by omega)
      have ho := hds l[k] (by simp)
      have g3 := g2 k hlt2
      rw [pS_lt h l hlt2] at g3
      rw [List.drop_eq_getElem_cons hlt2, bmG] at hfk
      generalize l[k] = o at *
      have hbo := mvT_bd (hmb _ _ ho hd)
      by_cases hki : k = i
      · rw [if_pos hki] at hfk
        have hki' : ((k : Int) = (i : Int)) = True := by simp only [eq_iff_iff, iff_true]; omega
        simp +contextual -implicitDefEqProofs (maxSteps := 2000000) only [S65b, q1, q3, hki', not_true_eq_false, List.length_map, ruB, rh_no, Int.reduceLT, Int.reduceLE, Int.reduceAdd, Int.reduceSub, Int.reduceMul, Int.reduceNeg, Int.reduceToNat, Int.reduceEq, Int.reduceNe, Int.reduceTDiv, Int.reduceTMod, implies_true, putL, appN, appX, appC, Eng.Fi, reduceCtorEq, exists_eq_left', exists_eq_left, if_true, if_false, List.replicate, Nat.reduceAdd, Nat.reduceSub, Nat.reduceMul, Nat.reduceLeDiff, Nat.reduceLT, Nat.reduceEqDiff]
        exact go2 _ (k + 1, a) ⟨⟨hlt2, ha1, ha2⟩, hfk⟩ (by simp only; omega) (Wkn.to ⟨0, [(0, 0), (1, 1)], [], 2, [1, 5, 6, 7, 8, 9]⟩ rfl rfl (by simp [Wk.st, keepT, memN, Wk.fate, Wk.fate0, assoc, getE, Wk.hp, ABlk.sub, sub1, subs, S65b, free_Se, free_Dr, free_pA]))
      · rw [if_neg hki] at hfk
        have hki' : ((k : Int) = (i : Int)) = False := by simp only [eq_iff_iff, iff_false]; omega
        simp +contextual -implicitDefEqProofs (maxSteps := 2000000) only [S65b, q1, q3, hki', not_false_eq_true, List.length_map, b1, b3, g3, Nat.mul_one, pA_len, ruB, rh_no, Int.reduceLT, Int.reduceLE, Int.reduceAdd, Int.reduceSub, Int.reduceMul, Int.reduceNeg, Int.reduceToNat, Int.reduceEq, Int.reduceNe, Int.reduceTDiv, Int.reduceTMod, implies_true, putL, appN, appX, appC, Eng.Fi, reduceCtorEq, exists_eq_left', exists_eq_left, if_true, if_false, List.replicate, Nat.reduceAdd, Nat.reduceSub, Nat.reduceMul, Nat.reduceLeDiff, Nat.reduceLT, Nat.reduceEqDiff]
        exact go2 _ (k + 1, min a (mvT h o d)) ⟨⟨hlt2, by simp only; omega, by simp only; omega⟩, hfk⟩ (by simp only; omega) (Wkn.to ⟨0, [(0, 0), (1, 1)], [], 2, [1, 5, 6, 7, 8, 9]⟩ rfl rfl (by simp [Wk.st, keepT, memN, Wk.fate, Wk.fate0, assoc, getE, Wk.hp, ABlk.sub, sub1, subs, S65b, free_Se, free_Dr, free_pA]))
    · have q1 : decide ((k : Int) < (l.length : Int)) = false := lt_f hlt2
      rw [List.drop_eq_nil_of_le hlt2, bmG] at hfk
      rw [hfk] at hf
      have w1 : IntKind.wrap .i64 (s + a) = s + a := wrap64 (by omega) (by omega)
      simp +contextual -implicitDefEqProofs (maxSteps := 2000000) only [S65b, q1, e3, w1, List.length_map, ruB, rh_no, Int.reduceLT, Int.reduceLE, Int.reduceAdd, Int.reduceSub, Int.reduceMul, Int.reduceNeg, Int.reduceToNat, Int.reduceEq, Int.reduceNe, Int.reduceTDiv, Int.reduceTMod, implies_true, putL, appN, appX, appC, Eng.Fi, reduceCtorEq, exists_eq_left', exists_eq_left, if_true, if_false, List.replicate, Nat.reduceAdd, Nat.reduceSub, Nat.reduceMul, Nat.reduceLeDiff, Nat.reduceLT, Nat.reduceEqDiff]
      exact go _ (i + 1, s + a) ⟨⟨hlt, by simp only; omega, by simp only; omega⟩, hf⟩ (by simp only; omega) (Wkn.to ⟨0, [(0, 0), (1, 1)], [], 2, [1, 5, 6, 7]⟩ rfl rfl (by simp [Wk.st, keepT, memN, Wk.fate, Wk.fate0, assoc, getE, Wk.hp, ABlk.sub, sub1, subs, S65a, free_Se, free_Dr, free_pA]))
  · have e1 : decide ((i : Int) < (l.length : Int)) = false := lt_f hlt
    rw [List.drop_eq_nil_of_le hlt, bdG] at hf
    rw [hf]
    simp +contextual -implicitDefEqProofs (maxSteps := 2000000) only [S65a, e1, List.length_map, ruB, rh_no, Int.reduceLT, Int.reduceLE, Int.reduceAdd, Int.reduceSub, Int.reduceMul, Int.reduceNeg, Int.reduceToNat, Int.reduceEq, Int.reduceNe, Int.reduceTDiv, Int.reduceTMod, implies_true, putL, appN, appX, appC, Eng.Fi, reduceCtorEq, exists_eq_left', exists_eq_left, if_true, if_false, List.replicate, Nat.reduceAdd, Nat.reduceSub, Nat.reduceMul, Nat.reduceLeDiff, Nat.reduceLT, Nat.reduceEqDiff]
def cf_rBound : List AV → Option AV
  | [h_v, .vs l_v] => onH h_v fun h => onL dDr l_v fun l => if kQ h l then some (I (bdG h l 0 0 l)) else none
  | _ => none
theorem g_rBound : Fn P 65 cf_rBound := fun args v hh => by
  unfold cf_rBound at hh; split at hh
  · obtain ⟨h, rfl, hh1⟩ := onH_inv hh
    obtain ⟨l, rfl, hh2⟩ := onL_inv dDr_inv hh1
    split at hh2
    · rename_i hc; have hk := Option.some.inj hh2; subst hk; exact k_rBound _ _ hc
    · cases hh2
  · cases hh
theorem x_rBound (h : Hd) (l : List Dr) (hc : (kQ h l) = True) : cf_rBound [eHd h, .vs (l.map eDr)] = some (I (bdG h l 0 0 l)) := by
  simp only [cf_rBound, onH_e, onL_map dDr_e]
  exact if_pos (by rw [hc]; trivial)
/-- a number is among them -/
def S112 (l : List Int) (x : Int) (n : Nat) : AState := ⟨[.vs (l.map eI), I x, .any, .any, .any, I n, .any, .any, .any, .any, .any, .any, .any, .any, .any, .any, .any, .any], [], 0⟩
theorem k_Has (l : List Int) (x : Int) (hl : l.length ≤ 1000) : FOk P 112 [.vs (l.map eI), I x] (.bool (decide (x ∈ l))) := by
  refine c112.fok (by simp only [subs, sub1, free_I]) (Cor.run (noC_good _) (noHx_good _) hm ?_)
  simp +contextual -implicitDefEqProofs (maxSteps := 2000000) only [bg_eq, a112, List.length_map, ruB, rh_no, Int.reduceLT, Int.reduceLE, Int.reduceAdd, Int.reduceSub, Int.reduceMul, Int.reduceNeg, Int.reduceToNat, Int.reduceEq, Int.reduceNe, Int.reduceTDiv, Int.reduceTMod, implies_true, putL, appN, appX, appC, Eng.Fi, reduceCtorEq, exists_eq_left', exists_eq_left, if_true, if_false, List.replicate, Nat.reduceAdd, Nat.reduceSub, Nat.reduceMul, Nat.reduceLeDiff, Nat.reduceLT, Nat.reduceEqDiff]
  refine Cor.lp (noC_good _) (noHx_good _) hm (S112 l x) (fun n => n ≤ l.length ∧ decide (x ∈ l) = decide (x ∈ l.drop n)) (fun n => l.length - n) (a := 0) ⟨Nat.zero_le _, rfl⟩ (Wkn.keep [0, 1, 5] rfl) ?_
  rintro f n ⟨hn, hf⟩ go
  rcases Nat.lt_or_ge n l.length with hlt | hlt
  · have e1 : decide ((n : Int) < (l.length : Int)) = true := lt_t hlt
    have e2 : (l.map eI)[n]? = some (eI l[n]) := get_e eI l hlt
    have e3 : IntKind.wrap .i64 ((n : Int) + 1) = ((n + 1 : Nat) : Int) := suc_w (by omega)
    rw [List.drop_eq_getElem_cons hlt] at hf
    generalize l[n] = v at *
    by_cases hv : v = x
    · have hv' : (v = x) = True := eq_true hv
      have : decide (x ∈ v :: l.drop (n + 1)) = true := decide_eq_true (by simp [hv])
      rw [this] at hf
      simp +contextual -implicitDefEqProofs (maxSteps := 2000000) only [S112, e1, e2, hv', hf, List.length_map, ruB, rh_no, Int.reduceLT, Int.reduceLE, Int.reduceAdd, Int.reduceSub, Int.reduceMul, Int.reduceNeg, Int.reduceToNat, Int.reduceEq, Int.reduceNe, Int.reduceTDiv, Int.reduceTMod, implies_true, putL, appN, appX, appC, Eng.Fi, reduceCtorEq, exists_eq_left', exists_eq_left, if_true, if_false, List.replicate, Nat.reduceAdd, Nat.reduceSub, Nat.reduceMul, Nat.reduceLeDiff, Nat.reduceLT, Nat.reduceEqDiff]
    · have hv' : (v = x) = False := eq_false hv
      have : decide (x ∈ v :: l.drop (n + 1)) = decide (x ∈ l.drop (n + 1)) := decide_eq_decide.2 ⟨fun h => (List.mem_cons.1 h).elim (fun e => absurd e.symm hv) (fun h => h), fun h => List.mem_cons_of_mem _ h⟩
      rw [this] at hf
      simp +contextual -implicitDefEqProofs (maxSteps := 2000000) only [S112, e1, e2, e3, hv', List.length_map, ruB, rh_no, Int.reduceLT, Int.reduceLE, Int.reduceAdd, Int.reduceSub, Int.reduceMul, Int.reduceNeg, Int.reduceToNat, Int.reduceEq, Int.reduceNe, Int.reduceTDiv, Int.reduceTMod, implies_true, putL, appN, appX, appC, Eng.Fi, reduceCtorEq, exists_eq_left', exists_eq_left, if_true, if_false, List.replicate, Nat.reduceAdd, Nat.reduceSub, Nat.reduceMul, Nat.reduceLeDiff, Nat.reduceLT, Nat.reduceEqDiff]
      exact go _ (n + 1) ⟨hlt, hf⟩ (by omega) (Wkn.keep [0, 1, 5] rfl)
  · have e1 : decide ((n : Int) < (l.length : Int)) = false := lt_f hlt
    rw [List.drop_eq_nil_of_le hlt] at hf
    have : decide (x ∈ ([] : List Int)) = false := decide_eq_false (by simp)
    rw [this] at hf
    simp +contextual -implicitDefEqProofs (maxSteps := 2000000) only [S112, e1, hf, List.length_map, ruB, rh_no, Int.reduceLT, Int.reduceLE, Int.reduceAdd, Int.reduceSub, Int.reduceMul, Int.reduceNeg, Int.reduceToNat, Int.reduceEq, Int.reduceNe, Int.reduceTDiv, Int.reduceTMod, implies_true, putL, appN, appX, appC, Eng.Fi, reduceCtorEq, exists_eq_left', exists_eq_left, if_true, if_false, List.replicate, Nat.reduceAdd, Nat.reduceSub, Nat.reduceMul, Nat.reduceLeDiff, Nat.reduceLT, Nat.reduceEqDiff]
def cf_Has : List AV → Option AV
  | [.vs l_v, .int .i64 x] => onL dI l_v fun l => if l.length ≤ 1000 then some (.bool (decide (x ∈ l))) else none
  | _ => none
theorem g_Has : Fn P 112 cf_Has := fun args v hh => by
  unfold cf_Has at hh; split at hh
  · obtain ⟨l, rfl, hh1⟩ := onL_inv dI_inv hh
    split at hh1
    · rename_i hc; have hk := Option.some.inj hh1; subst hk; exact k_Has _ _ hc
    · cases hh1
  · cases hh
theorem x_Has (l : List Int) (x : Int) (hc : (l.length ≤ 1000) = True) : cf_Has [.vs (l.map eI), .int .i64 x] = some (.bool (decide (x ∈ l))) := by
  simp only [cf_Has, onL_map dI_e]
  exact if_pos (by rw [hc]; trivial)
end Sc
