import Derived.Test.YtjkhnmhbbjgenaaEngS9
import Derived.Test.YtjkhnmhbbjgenaaS39
open Go Go.Proofs Eng
set_option maxRecDepth 100000
set_option linter.unusedSimpArgs false
set_option linter.unusedVariables false
def a61 : AC := .seq (.ops false [] [⟨some 2, .box 42 7 1 true, [.t 0], none⟩, ⟨some 4, .p (.mov), [.c (.int .i64 0)], none⟩, ⟨some 5, .p (.mov), [.c (.int .i64 0)], none⟩]) (.seq (.seq (.ops false [] [⟨some 15, .load 7 true, [.t 2], none⟩, ⟨some 16, .p (.mov), [.t 1], none⟩, ⟨some 17, .call 104, [.t 15, .t 16], none⟩, ⟨some 14, .p (.mov), [.t 17], none⟩, ⟨some 18, .p (.ext 0), [.t 14], none⟩, ⟨some 19, .p (.ext 1), [.t 14], none⟩, ⟨some 6, .alloc 142 8 [.agg [.int .i64 0, .int .i64 0, .int .i64 0, .int .i64 0, .int .i64 0, .int .i64 0, .nilslice, .nilslice]], [], none⟩, ⟨none, .store 8 true, [.t 6, .t 18], none⟩, ⟨some 7, .p (.mov), [.t 19], none⟩]) (.seq (.ops false [] [⟨some 20, .p (.mov), [.t 7], none⟩, ⟨some 21, .p (.binI .neq), [.t 20, .c (.int .i64 0)], none⟩]) (.cond (.t 21) (.seq (.ops false [] [⟨some 22, .p (.mov), [.t 7], none⟩, ⟨some 4, .p (.mov), [.c (.int .i64 0)], none⟩, ⟨some 5, .p (.mov), [.t 22], none⟩]) (.ret)) (.skip)))) (.seq (.ops false [] [⟨some 8, .p (.mov), [.c (.int .i64 0)], none⟩]) (.seq (.seq (.ops false [] [⟨some 23, .p (.mov), [.t 1], none⟩, ⟨some 24, .p (.lenS), [.t 23], none⟩, ⟨some 25, .p (.mov), [.c (.int .i64 0)], none⟩]) (.block 0 (.loop (.seq (.ops false [] [⟨some 26, .p (.binI .lss), [.t 25, .t 24], none⟩]) (.seq (.cond (.t 26) (.skip) (.exit 0)) (.seq (.block 1 (.seq (.ops false [] [⟨some 27, .p (.mov), [.t 25], none⟩, ⟨some 28, .p (.iaddrS 2), [.t 23, .t 25], none⟩, ⟨some 29, .load 2 true, [.t 28], none⟩, ⟨some 10, .alloc 37 2 [.agg [.int .i64 0, .int .i64 0]], [], none⟩, ⟨some 9, .p (.mov), [.t 27], none⟩, ⟨none, .store 2 true, [.t 10, .t 29], none⟩]) (.seq (.ops false [] [⟨some 30, .load 7 true, [.t 2], none⟩, ⟨some 31, .p (.faddr 0), [.t 2], none⟩, ⟨some 32, .load 2 true, [.t 31], none⟩, ⟨some 33, .load 2 true, [.t 10], none⟩, ⟨some 34, .call 98, [.t 30, .t 32, .t 33], none⟩, ⟨some 11, .p (.mov), [.t 34], none⟩]) (.seq (.seq (.ops false [] [⟨some 35, .p (.mov), [.t 1], none⟩, ⟨some 36, .p (.lenS), [.t 35], none⟩, ⟨some 37, .p (.mov), [.c (.int .i64 0)], none⟩]) (.block 2 (.loop (.seq (.ops false [] [⟨some 38, .p (.binI .lss), [.t 37, .t 36], none⟩]) (.seq (.cond (.t 38) (.skip) (.exit 2)) (.seq (.block 3 (.seq (.ops false [] [⟨some 39, .p (.mov), [.t 37], none⟩, ⟨some 40, .p (.iaddrS 2), [.t 35, .t 37], none⟩, ⟨some 41, .load 2 true, [.t 40], none⟩, ⟨some 13, .alloc 37 2 [.agg [.int .i64 0, .int .i64 0]], [], none⟩, ⟨some 12, .p (.mov), [.t 39], none⟩, ⟨none, .store 2 true, [.t 13, .t 41], none⟩]) (.seq (.ops false [] [⟨some 42, .p (.mov), [.t 12], none⟩, ⟨some 43, .p (.mov), [.t 9], none⟩, ⟨some 44, .p (.binI .neq), [.t 42, .t 43], none⟩]) (.cond (.t 44) (.ops false [] [⟨some 45, .p (.mov), [.t 11], none⟩, ⟨some 46, .load 7 true, [.t 2], none⟩, ⟨some 47, .load 2 true, [.t 13], none⟩, ⟨some 48, .load 2 true, [.t 10], none⟩, ⟨some 49, .call 98, [.t 46, .t 47, .t 48], none⟩, ⟨some 50, .p (.mm false), [.t 45, .t 49], none⟩, ⟨some 11, .p (.mov), [.t 50], none⟩]) (.skip))))) (.ops false [] [⟨some 51, .p (.binI .add), [.t 37, .c (.int .i64 1)], none⟩, ⟨some 37, .p (.mov), [.t 51], none⟩]))))))) (.ops false [] [⟨some 52, .p (.mov), [.t 8], none⟩, ⟨some 53, .p (.mov), [.t 11], none⟩, ⟨some 54, .p (.binI .add), [.t 52, .t 53], none⟩, ⟨some 8, .p (.mov), [.t 54], none⟩]))))) (.ops false [] [⟨some 55, .p (.binI .add), [.t 25, .c (.int .i64 1)], none⟩, ⟨some 25, .p (.mov), [.t 55], none⟩]))))))) (.seq (.ops false [] [⟨some 56, .p (.mov), [.t 8], none⟩, ⟨some 4, .p (.mov), [.t 56], none⟩, ⟨some 5, .p (.mov), [.c (.int .i64 0)], none⟩]) (.ret)))))
theorem c61 : FnC Try.prog 61 57 a61 [.tmp 4, .tmp 5] := ⟨Try.call61, _, _, Try.func61, rfl, by kernel_rfl, by kernel_rfl, rfl⟩
namespace Sc
/-- the least ticks into one of the directions -/
def bmG (h : Hd) (d : Dr) (i : Nat) : Int → Nat → List Dr → Int
  | a, _, [] => a
  | a, k, o :: r => bmG h d i (if k = i then a else min a (mvT h o d)) (k + 1) r
def bdG (h : Hd) (l : List Dr) : Int → Nat → List Dr → Int
  | s, _, [] => s
  | s, i, d :: r => bdG h l (s + bmG h d i (mvT h h.home d) 0 l) (i + 1) r
def bdV (h : Hd) (l : List Dr) : AV := if opE h l = 0 then .tup [I (bdG h l 0 0 l), I 0] else .tup [I 0, I (opE h l)]
def S61a (h : Hd) (l : List Dr) (p : Nat × Int) : AState := ⟨[.any, .vs (l.map eDr), .ptr 0 7 0 0, .any, .any, .any, .any, .any, I p.2, .any, .any, .any, .any, .any, .any, .any, .any, .any, .any, .any, .any, .any, .any, .vs (l.map eDr), I l.length, I p.1, .any, .any, .any, .any, .any, .any, .any, .any, .any, .any, .any, .any, .any, .any, .any, .any, .any, .any, .any, .any, .any, .any, .any, .any, .any, .any, .any, .any, .any, .any, .any], [⟨0, 0, .rows 42 7 [eHd h]⟩], 1⟩
def S61b (h : Hd) (l : List Dr) (i : Nat) (s : Int) (d : Dr) (p : Nat × Int) : AState := ⟨[.any, .vs (l.map eDr), .ptr 0 7 0 0, .any, .any, .any, .any, .any, I s, I i, .ptr 1 2 0 0, I p.2, .any, .any, .any, .any, .any, .any, .any, .any, .any, .any, .any, .vs (l.map eDr), I l.length, I i, .any, .any, .any, .any, .any, .any, .any, .any, .any, .vs (l.map eDr), I l.length, I p.1, .any, .any, .any, .any, .any, .any, .any, .any, .any, .any, .any, .any, .any, .any, .any, .any, .any, .any, .any], [⟨1, 1, .rows 37 2 [eDr d]⟩, ⟨0, 0, .rows 42 7 [eHd h]⟩], 2⟩
theorem k_BoundOf (h : Hd) (l : List Dr) (hc : h.res.length ≤ 1099511627776 ∧ l.length ≤ 1000) : FOk P 61 [eHd h, .vs (l.map eDr)] (bdV h l) := by
  obtain ⟨hh, hl⟩ := hc
  have y := x_openOrder h l (by simp only [eq_iff_iff, iff_true]; exact ⟨hh, by omega⟩)
  by_cases h0 : opE h l = 0
  · rw [bdV, if_pos h0]
    obtain ⟨hod, hpos⟩ := opE_z h0
    have hz := hdE_zero hod.1.1
    have h6 := hod.1.2
    have hds := hod.2
    simp only at h6 hds hz
    have hmb : ∀ a b, drR a → drR b → mvB h a b := fun a b ha hb => ⟨⟨hz.1.1.2.1, hz.1.1.2.2⟩, ha, hb⟩
    refine c61.fok (by simp only [free_Hs, subs, sub1, free_Se, free_Dr]) (Cor.run (addC_good g_moveTicks (addC_good g_openOrder (noC_good _))) (noHx_good _) hm ?_)
    simp +contextual -implicitDefEqProofs (maxSteps := 2000000) only [bg_eq, a61, y, h0, free_Se, free_Dr, List.length_map, not_true_eq_false, ruB, rh_no, Int.reduceLT, Int.reduceLE, Int.reduceAdd, Int.reduceSub, Int.reduceMul, Int.reduceNeg, Int.reduceToNat, Int.reduceEq, Int.reduceNe, Int.reduceTDiv, Int.reduceTMod, implies_true, putL, appN, appX, appC, Eng.Fi, reduceCtorEq, exists_eq_left', exists_eq_left, if_true, if_false, List.replicate, Nat.reduceAdd, Nat.reduceSub, Nat.reduceMul, Nat.reduceLeDiff, Nat.reduceLT, Nat.reduceEqDiff]
    refine Cor.lp (addC_good g_moveTicks (addC_good g_openOrder (noC_good _))) (noHx_good _) hm (S61a h l) (fun p => (p.1 ≤ l.length ∧ 0 ≤ p.2 ∧ p.2 ≤ p.1 * 450) ∧ bdG h l 0 0 l = bdG h l p.2 p.1 (l.drop p.1)) (fun p => l.length - p.1) (a := (0, 0)) ⟨⟨Nat.zero_le _, by simp, by simp⟩, rfl⟩ (Wkn.to ⟨0, [(0, 0)], [], 1, [1, 2, 8, 23, 24, 25]⟩ rfl rfl (by simp [Wk.st, keepT, memN, Wk.fate, Wk.fate0, assoc, getE, Wk.hp, ABlk.sub, sub1, subs, S61a, free_Se, free_Dr])) ?_
    rintro f ⟨i, s⟩ ⟨⟨hi, hs1, hs2⟩, hf⟩ go
    simp only at hi hs1 hs2 hf
    rcases Nat.lt_or_ge i l.length with hlt | hlt
    · have e1 : decide ((i : Int) < (l.length : Int)) = true := lt_t hlt
      have e2 : (l.map eDr)[i]? = some (eDr l[i]) := get_e eDr l hlt
      have e3 : IntKind.wrap .i64 ((i : Int) + 1) = ((i + 1 : Nat) : Int) := suc_w (by omega)
      have hd := hds l[i] (by simp)
      rw [List.drop_eq_getElem_cons hlt, bdG] at hf
      generalize l[i] = d at *
      have ym := x_moveTicks h h.home d (by simp only [hmb _ _ hz.1.1.1 hd])
      have hb0 := mvT_bd (hmb _ _ hz.1.1.1 hd)
      have tp : ((i + 1 : Nat) : Int) * 450 = (i : Int) * 450 + 450 := by omega
      simp +contextual -implicitDefEqProofs (maxSteps := 2000000) only [S61a, e1, e2, ym, List.length_map, ruB, rh_no, Int.reduceLT, Int.reduceLE, Int.reduceAdd, Int.reduceSub, Int.reduceMul, Int.reduceNeg, Int.reduceToNat, Int.reduceEq, Int.reduceNe, Int.reduceTDiv, Int.reduceTMod, implies_true, putL, appN, appX, appC, Eng.Fi, reduceCtorEq, exists_eq_left', exists_eq_left, if_true, if_false, List.replicate, Nat.reduceAdd, Nat.reduceSub, Nat.reduceMul, Nat.reduceLeDiff, Nat.reduceLT, Nat.reduceEqDiff]
      refine Cor.lp (addC_good g_moveTicks (addC_good g_openOrder (noC_good _))) (noHx_good _) hm (S61b h l i s d) (fun p => (p.1 ≤ l.length ∧ 0 ≤ p.2 ∧ p.2 ≤ 450) ∧ bmG h d i (mvT h h.home d) 0 l = bmG h d i p.2 p.1 (l.drop p.1)) (fun p => l.length - p.1) (a := (0, mvT h h.home d)) ⟨⟨Nat.zero_le _, hb0⟩, rfl⟩ (Wkn.to ⟨0, [(0, 0), (1, 1)], [], 2, [1, 2, 8, 9, 10, 11, 23, 24, 25, 35, 36, 37]⟩ rfl rfl (by simp [Wk.st, keepT, memN, Wk.fate, Wk.fate0, assoc, getE, Wk.hp, ABlk.sub, sub1, subs, S61b, free_Se, free_Dr])) ?_
      rintro f2 ⟨k, a⟩ ⟨⟨hk, ha1, ha2⟩, hfk⟩ go2
      simp only at hk ha1 ha2 hfk
      rcases Nat.lt_or_ge k l.length with hlt2 | hlt2
      · have q1 : decide ((k : Int) < (l.length : Int)) = true := lt_t hlt2
        have q2 : (l.map eDr)[k]? = some (eDr l[k]) := get_e eDr l hlt2
        have q3 : IntKind.wrap .i64 ((k : Int) + 1) = ((k + 1 : Nat) : Int) := suc_w (by omega)
        have ho := hds l[k] (by simp)
        rw [List.drop_eq_getElem_cons hlt2, bmG] at hfk
        generalize l[k] = o at *
        have yo := x_moveTicks h o d (by simp only [hmb _ _ ho hd])
        have hbo := mvT_bd (hmb _ _ ho hd)
        by_cases hki : k = i
        · rw [if_pos hki] at hfk
          have hki' : ((k : Int) = (i : Int)) = True := by simp only [eq_iff_iff, iff_true]; omega
          simp +contextual -implicitDefEqProofs (maxSteps := 2000000) only [S61b, q1, q2, q3, hki', not_true_eq_false, ruB, rh_no, Int.reduceLT, Int.reduceLE, Int.reduceAdd, Int.reduceSub, Int.reduceMul, Int.reduceNeg, Int.reduceToNat, Int.reduceEq, Int.reduceNe, Int.reduceTDiv, Int.reduceTMod, implies_true, putL, appN, appX, appC, Eng.Fi, reduceCtorEq, exists_eq_left', exists_eq_left, if_true, if_false, List.replicate, Nat.reduceAdd, Nat.reduceSub, Nat.reduceMul, Nat.reduceLeDiff, Nat.reduceLT, Nat.reduceEqDiff]
          exact go2 _ (k + 1, a) ⟨⟨hlt2, ha1, ha2⟩, hfk⟩ (by simp only; omega) (Wkn.to ⟨0, [(0, 0), (1, 1)], [], 2, [1, 2, 8, 9, 10, 11, 23, 24, 25, 35, 36, 37]⟩ rfl rfl (by simp [Wk.st, keepT, memN, Wk.fate, Wk.fate0, assoc, getE, Wk.hp, ABlk.sub, sub1, subs, S61b, free_Se, free_Dr]))
        · rw [if_neg hki] at hfk
          have hki' : ((k : Int) = (i : Int)) = False := by simp only [eq_iff_iff, iff_false]; omega
          simp +contextual -implicitDefEqProofs (maxSteps := 2000000) only [S61b, q1, q2, q3, hki', yo, not_false_eq_true, ruB, rh_no, Int.reduceLT, Int.reduceLE, Int.reduceAdd, Int.reduceSub, Int.reduceMul, Int.reduceNeg, Int.reduceToNat, Int.reduceEq, Int.reduceNe, Int.reduceTDiv, Int.reduceTMod, implies_true, putL, appN, appX, appC, Eng.Fi, reduceCtorEq, exists_eq_left', exists_eq_left, if_true, if_false, List.replicate, Nat.reduceAdd, Nat.reduceSub, Nat.reduceMul, Nat.reduceLeDiff, Nat.reduceLT, Nat.reduceEqDiff]
          exact go2 _ (k + 1, min a (mvT h o d)) ⟨⟨hlt2, by simp only; omega, by simp only; omega⟩, hfk⟩ (by simp only; omega) (Wkn.to ⟨0, [(0, 0), (1, 1)], [], 2, [1, 2, 8, 9, 10, 11, 23, 24, 25, 35, 36, 37]⟩ rfl rfl (by simp [Wk.st, keepT, memN, Wk.fate, Wk.fate0, assoc, getE, Wk.hp, ABlk.sub, sub1, subs, S61b, free_Se, free_Dr]))
      · have q1 : decide ((k : Int) < (l.length : Int)) = false := lt_f hlt2
        rw [List.drop_eq_nil_of_le hlt2, bmG] at hfk
        rw [hfk] at hf
        have w1 : IntKind.wrap .i64 (s + a) = s + a := wrap64 (by omega) (by omega)
        simp +contextual -implicitDefEqProofs (maxSteps := 2000000) only [S61b, q1, e3, w1, ruB, rh_no, Int.reduceLT, Int.reduceLE, Int.reduceAdd, Int.reduceSub, Int.reduceMul, Int.reduceNeg, Int.reduceToNat, Int.reduceEq, Int.reduceNe, Int.reduceTDiv, Int.reduceTMod, implies_true, putL, appN, appX, appC, Eng.Fi, reduceCtorEq, exists_eq_left', exists_eq_left, if_true, if_false, List.replicate, Nat.reduceAdd, Nat.reduceSub, Nat.reduceMul, Nat.reduceLeDiff, Nat.reduceLT, Nat.reduceEqDiff]
        exact go _ (i + 1, s + a) ⟨⟨hlt, by simp only; omega, by simp only; omega⟩, hf⟩ (by simp only; omega) (Wkn.to ⟨0, [(0, 0)], [], 1, [1, 2, 8, 23, 24, 25]⟩ rfl rfl (by simp [Wk.st, keepT, memN, Wk.fate, Wk.fate0, assoc, getE, Wk.hp, ABlk.sub, sub1, subs, S61a, free_Se, free_Dr]))
    · have e1 : decide ((i : Int) < (l.length : Int)) = false := lt_f hlt
      rw [List.drop_eq_nil_of_le hlt, bdG] at hf
      rw [hf]
      simp +contextual -implicitDefEqProofs (maxSteps := 2000000) only [S61a, e1, ruB, rh_no, Int.reduceLT, Int.reduceLE, Int.reduceAdd, Int.reduceSub, Int.reduceMul, Int.reduceNeg, Int.reduceToNat, Int.reduceEq, Int.reduceNe, Int.reduceTDiv, Int.reduceTMod, implies_true, putL, appN, appX, appC, Eng.Fi, reduceCtorEq, exists_eq_left', exists_eq_left, if_true, if_false, List.replicate, Nat.reduceAdd, Nat.reduceSub, Nat.reduceMul, Nat.reduceLeDiff, Nat.reduceLT, Nat.reduceEqDiff]
  · rw [bdV, if_neg h0]
    refine c61.fok (by simp only [free_Hs, subs, sub1, free_Se, free_Dr]) (Cor.run (addC_good g_moveTicks (addC_good g_openOrder (noC_good _))) (noHx_good _) hm ?_)
    simp +contextual -implicitDefEqProofs (maxSteps := 2000000) only [bg_eq, a61, y, h0, free_Se, free_Dr, List.length_map, not_false_eq_true, ruB, rh_no, Int.reduceLT, Int.reduceLE, Int.reduceAdd, Int.reduceSub, Int.reduceMul, Int.reduceNeg, Int.reduceToNat, Int.reduceEq, Int.reduceNe, Int.reduceTDiv, Int.reduceTMod, implies_true, putL, appN, appX, appC, Eng.Fi, reduceCtorEq, exists_eq_left', exists_eq_left, if_true, if_false, List.replicate, Nat.reduceAdd, Nat.reduceSub, Nat.reduceMul, Nat.reduceLeDiff, Nat.reduceLT, Nat.reduceEqDiff]
def cf_BoundOf : List AV → Option AV
  | [h_v, .vs l_v] => onH h_v fun h => onL dDr l_v fun l => if h.res.length ≤ 1099511627776 ∧ l.length ≤ 1000 then some (bdV h l) else none
  | _ => none
theorem g_BoundOf : Fn P 61 cf_BoundOf := fun args v hh => by
  unfold cf_BoundOf at hh; split at hh
  · obtain ⟨h, rfl, hh1⟩ := onH_inv hh
    obtain ⟨l, rfl, hh2⟩ := onL_inv dDr_inv hh1
    split at hh2
    · rename_i hc; have hk := Option.some.inj hh2; subst hk; exact k_BoundOf _ _ hc
    · cases hh2
  · cases hh
theorem x_BoundOf (h : Hd) (l : List Dr) (hc : (h.res.length ≤ 1099511627776 ∧ l.length ≤ 1000) = True) : cf_BoundOf [eHd h, .vs (l.map eDr)] = some (bdV h l) := by
  simp only [cf_BoundOf, onH_e, onL_map dDr_e]
  exact if_pos (by rw [hc]; trivial)
/-- one list of numbers before another one -/
def bef : List Int → List Int → Bool
  | [], [] => false
  | [], _ :: _ => true
  | _ :: _, [] => false
  | a :: r, b :: q => if a = b then bef r q else decide (a < b)
end Sc
