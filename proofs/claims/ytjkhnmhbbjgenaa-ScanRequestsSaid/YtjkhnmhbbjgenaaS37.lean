import Derived.Test.YtjkhnmhbbjgenaaEngS9
import Derived.Test.YtjkhnmhbbjgenaaS36
open Go Go.Proofs Eng
set_option maxRecDepth 100000
set_option linter.unusedSimpArgs false
set_option linter.unusedVariables false
def a53 : AC := .seq (.ops false [] [⟨some 4, .p (.mov), [.c (.nilslice)], none⟩]) (.seq (.ops false [] [⟨some 5, .p (.mov), [.c (.nilslice)], none⟩]) (.seq (.seq (.ops false [] [⟨some 6, .p (.mov), [.c (.int .i64 0)], none⟩]) (.block 0 (.loop (.seq (.seq (.ops false [] [⟨some 9, .p (.mov), [.t 6], none⟩, ⟨some 10, .p (.mov), [.t 1], none⟩, ⟨some 11, .p (.lenS), [.t 10], none⟩, ⟨some 12, .p (.binI .lss), [.t 9, .t 11], none⟩]) (.cond (.t 12) (.skip) (.exit 0))) (.seq (.block 1 (.seq (.ops false [] [⟨some 7, .p (.mov), [.c (.bool false)], none⟩]) (.seq (.seq (.ops false [] [⟨some 8, .p (.mov), [.c (.int .i64 0)], none⟩]) (.block 2 (.loop (.seq (.seq (.ops false [] [⟨some 15, .p (.mov), [.t 8], none⟩, ⟨some 16, .p (.mov), [.t 0], none⟩, ⟨some 17, .p (.lenS), [.t 16], none⟩, ⟨some 18, .p (.binI .lss), [.t 15, .t 17], none⟩]) (.cond (.t 18) (.skip) (.exit 2))) (.seq (.block 3 (.ops true [] [⟨some 21, .p (.mov), [.t 7], none⟩, ⟨some 22, .p (.mov), [.t 21], none⟩, ⟨some 23, .p (.mov), [.t 1], some (22, false)⟩, ⟨some 24, .p (.mov), [.t 6], some (22, false)⟩, ⟨some 25, .p (.iaddrS 3), [.t 23, .t 24], some (22, false)⟩, ⟨some 26, .load 3 true, [.t 25], some (22, false)⟩, ⟨some 27, .p (.mov), [.t 0], some (22, false)⟩, ⟨some 28, .p (.mov), [.t 8], some (22, false)⟩, ⟨some 29, .p (.iaddrS 4), [.t 27, .t 28], some (22, false)⟩, ⟨some 30, .p (.faddr 0), [.t 29], some (22, false)⟩, ⟨some 31, .load 2 true, [.t 30], some (22, false)⟩, ⟨some 32, .call 103, [.t 26, .t 31], some (22, false)⟩, ⟨some 33, .p (.pick), [.t 22, .c (.bool true), .t 32], none⟩, ⟨some 7, .p (.mov), [.t 33], none⟩])) (.ops false [] [⟨some 19, .p (.mov), [.t 8], none⟩, ⟨some 20, .p (.binI .add), [.t 19, .c (.int .i64 1)], none⟩, ⟨some 8, .p (.mov), [.t 20], none⟩])))))) (.seq (.ops false [] [⟨some 34, .p (.mov), [.t 7], none⟩, ⟨some 35, .p (.notB), [.t 34], none⟩]) (.cond (.t 35) (.ops false [] [⟨some 36, .p (.mov), [.t 5], none⟩, ⟨some 37, .p (.mov), [.t 6], none⟩, ⟨some 38, .fbs 1, [.t 37], none⟩, ⟨some 39, .app 3 1 8, [.t 36, .t 38], none⟩, ⟨some 5, .p (.mov), [.t 39], none⟩]) (.skip)))))) (.ops false [] [⟨some 13, .p (.mov), [.t 6], none⟩, ⟨some 14, .p (.binI .add), [.t 13, .c (.int .i64 1)], none⟩, ⟨some 6, .p (.mov), [.t 14], none⟩])))))) (.seq (.ops false [] [⟨some 40, .p (.mov), [.t 5], none⟩, ⟨some 4, .p (.mov), [.t 40], none⟩]) (.ret))))
theorem c53 : FnC Try.prog 53 41 a53 [.tmp 4] := ⟨Try.call53, _, _, Try.func53, rfl, by kernel_rfl, by kernel_rfl, rfl⟩
def a56 : AC := .seq (.ops false [] [⟨some 3, .box 93 3 1 true, [.t 1], none⟩, ⟨some 4, .p (.mov), [.c (.int .i64 0)], none⟩, ⟨some 5, .p (.mov), [.c (.bool false)], none⟩]) (.seq (.ops false [] [⟨some 6, .p (.mov), [.c (.int .i64 0)], none⟩, ⟨some 7, .p (.mov), [.c (.int .i64 0)], none⟩, ⟨some 8, .p (.mov), [.c (.bool false)], none⟩]) (.seq (.seq (.ops false [] [⟨some 9, .p (.mov), [.c (.int .i64 0)], none⟩]) (.block 0 (.loop (.seq (.seq (.ops false [] [⟨some 10, .p (.mov), [.t 9], none⟩, ⟨some 11, .p (.mov), [.t 0], none⟩, ⟨some 12, .p (.lenS), [.t 11], none⟩, ⟨some 13, .p (.binI .lss), [.t 10, .t 12], none⟩]) (.cond (.t 13) (.skip) (.exit 0))) (.seq (.block 1 (.seq (.ops true [] [⟨some 16, .load 3 true, [.t 3], none⟩, ⟨some 17, .p (.mov), [.t 0], none⟩, ⟨some 18, .p (.mov), [.t 9], none⟩, ⟨some 19, .p (.iaddrS 4), [.t 17, .t 18], none⟩, ⟨some 20, .p (.faddr 0), [.t 19], none⟩, ⟨some 21, .load 2 true, [.t 20], none⟩, ⟨some 22, .call 103, [.t 16, .t 21], none⟩]) (.cond (.t 22) (.ops true [] [⟨some 23, .p (.mov), [.t 6], none⟩, ⟨some 24, .p (.mov), [.t 0], none⟩, ⟨some 25, .p (.mov), [.t 9], none⟩, ⟨some 26, .p (.iaddrS 4), [.t 24, .t 25], none⟩, ⟨some 27, .p (.faddr 2), [.t 26], none⟩, ⟨some 28, .p (.faddr 0), [.t 27], none⟩, ⟨some 29, .load 1 false, [.t 28], none⟩, ⟨some 30, .p (.mov), [.t 7], none⟩, ⟨some 31, .p (.binI .sub), [.t 29, .t 30], none⟩, ⟨some 32, .p (.mm true), [.t 23, .t 31], none⟩, ⟨some 33, .p (.mov), [.t 0], none⟩, ⟨some 34, .p (.mov), [.t 9], none⟩, ⟨some 35, .p (.iaddrS 4), [.t 33, .t 34], none⟩, ⟨some 36, .p (.faddr 2), [.t 35], none⟩, ⟨some 37, .p (.faddr 1), [.t 36], none⟩, ⟨some 38, .load 1 false, [.t 37], none⟩, ⟨some 6, .p (.mov), [.t 32], none⟩, ⟨some 7, .p (.mov), [.t 38], none⟩, ⟨some 8, .p (.mov), [.c (.bool true)], none⟩]) (.skip)))) (.ops false [] [⟨some 14, .p (.mov), [.t 9], none⟩, ⟨some 15, .p (.binI .add), [.t 14, .c (.int .i64 1)], none⟩, ⟨some 9, .p (.mov), [.t 15], none⟩])))))) (.seq (.ops false [] [⟨some 39, .p (.mov), [.t 6], none⟩, ⟨some 40, .p (.mov), [.t 0], none⟩, ⟨some 41, .call 33, [.t 40], none⟩, ⟨some 42, .p (.mov), [.t 7], none⟩, ⟨some 43, .p (.binI .sub), [.t 41, .t 42], none⟩, ⟨some 44, .p (.mm true), [.t 39, .t 43], none⟩, ⟨some 45, .p (.mov), [.t 8], none⟩, ⟨some 4, .p (.mov), [.t 44], none⟩, ⟨some 5, .p (.mov), [.t 45], none⟩]) (.ret))))
theorem c56 : FnC Try.prog 56 46 a56 [.tmp 4, .tmp 5] := ⟨Try.call56, _, _, Try.func56, rfl, by kernel_rfl, by kernel_rfl, rfl⟩
namespace Sc
def unB (vs : List Vi) (rs : List Rq) : Prop := (vs.length ≤ 1000 ∧ ∀ v ∈ vs, drR ⟨v.az, v.el⟩) ∧ rs.length ≤ 1000 ∧ ∀ r ∈ rs, drR ⟨r.az, r.el⟩
instance (vs : List Vi) (rs : List Rq) : Decidable (unB vs rs) := by unfold unB; infer_instance
def S53a (vs : List Vi) (rs : List Rq) (p : Nat × List Int) : AState := ⟨[.vs (vs.map eVi), .vs (rs.map eRq), .any, .any, .any, iA p.2, I p.1, .any, .any, .any, .any, .any, .any, .any, .any, .any, .any, .any, .any, .any, .any, .any, .any, .any, .any, .any, .any, .any, .any, .any, .any, .any, .any, .any, .any, .any, .any, .any, .any, .any, .any], iH p.2, 2⟩
def S53b (vs : List Vi) (rs : List Rq) (i : Nat) (o : List Int) (p : Nat × Bool) : AState := ⟨[.vs (vs.map eVi), .vs (rs.map eRq), .any, .any, .any, iA o, I i, .bool p.2, I p.1, .any, .any, .any, .any, .any, .any, .any, .any, .any, .any, .any, .any, .any, .any, .any, .any, .any, .any, .any, .any, .any, .any, .any, .any, .any, .any, .any, .any, .any, .any, .any, .any], iH o, 2⟩
theorem umL_len (vs : List Vi) : ∀ (l : List Rq) (n : Nat), (umL vs n l).length ≤ l.length
  | [], n => by simp [umL]
  | r :: q, n => by
    rw [umL]
    have := umL_len vs q (n + 1)
    split
    · rw [List.length_cons]; omega
    · rw [List.length_cons, List.length_cons]; omega
theorem k_rUnmet (vs : List Vi) (rs : List Rq) (hc : unB vs rs) : FOk P 53 [.vs (vs.map eVi), .vs (rs.map eRq)] (.vs ((umL vs 0 rs).map eI)) := by
  obtain ⟨⟨hv1, hv2⟩, hr1, hr2⟩ := hc
  have hul := umL_len vs rs 0
  refine c53.fok (by simp only [subs, sub1, free_Vi, free_Rq]) (Cor.run (addC_good g_rMeets (noC_good _)) (noHx_good _) hm ?_)
  simp +contextual -implicitDefEqProofs (maxSteps := 2000000) only [bg_eq, a53, List.length_map, ruB, rh_no, Int.reduceLT, Int.reduceLE, Int.reduceAdd, Int.reduceSub, Int.reduceMul, Int.reduceNeg, Int.reduceToNat, Int.reduceEq, Int.reduceNe, Int.reduceTDiv, Int.reduceTMod, implies_true, putL, appN, appX, appC, Eng.Fi, reduceCtorEq, exists_eq_left', exists_eq_left, if_true, if_false, List.replicate, Nat.reduceAdd, Nat.reduceSub, Nat.reduceMul, Nat.reduceLeDiff, Nat.reduceLT, Nat.reduceEqDiff]
  refine Cor.lp (addC_good g_rMeets (noC_good _)) (noHx_good _) hm (S53a vs rs) (fun p => p.1 ≤ rs.length ∧ umL vs 0 rs = p.2 ++ umL vs p.1 (rs.drop p.1)) (fun p => rs.length - p.1) (a := (0, [])) ⟨Nat.zero_le _, rfl⟩ (Wkn.to ⟨0, [], [], 2, [0, 1, 5, 6]⟩ rfl rfl (by simp [Wk.st, keepT, memN, Wk.fate, Wk.fate0, assoc, getE, Wk.hp, ABlk.sub, sub1, subs, S53a, iA, iH, free_Rq, free_Vi])) ?_
  rintro f ⟨i, o⟩ ⟨hi, hf⟩ go
  simp only at hi hf
  have frO := fun φ => free_I φ o
  rcases Nat.lt_or_ge i rs.length with hlt | hlt
  · have e1 : decide ((i : Int) < (rs.length : Int)) = true := lt_t hlt
    have e2 : (rs.map eRq)[i]? = some (eRq rs[i]) := get_e eRq rs hlt
    have e3 : IntKind.wrap .i64 ((i : Int) + 1) = ((i + 1 : Nat) : Int) := suc_w (by omega)
    have hrd := hr2 rs[i] (by simp)
    rw [List.drop_eq_getElem_cons hlt, umL] at hf
    generalize rs[i] = r at *
    have hol : o.length ≤ 1000 := by rw [hf] at hul; simp only [List.length_append] at hul; omega
    have m1 : (o.length + 1 ≤ maxLen) = True := mx (by omega)
    have m2 : ((o.length + 1) * 8 ≤ 140737488355328) = True := by simp only [eq_iff_iff, iff_true]; omega
    simp +contextual -implicitDefEqProofs (maxSteps := 2000000) only [S53a, e1, List.length_map, ruB, rh_no, Int.reduceLT, Int.reduceLE, Int.reduceAdd, Int.reduceSub, Int.reduceMul, Int.reduceNeg, Int.reduceToNat, Int.reduceEq, Int.reduceNe, Int.reduceTDiv, Int.reduceTMod, implies_true, putL, appN, appX, appC, Eng.Fi, reduceCtorEq, exists_eq_left', exists_eq_left, if_true, if_false, List.replicate, Nat.reduceAdd, Nat.reduceSub, Nat.reduceMul, Nat.reduceLeDiff, Nat.reduceLT, Nat.reduceEqDiff]
    refine Cor.lp (addC_good g_rMeets (noC_good _)) (noHx_good _) hm (S53b vs rs i o) (fun p => p.1 ≤ vs.length ∧ (vs.any fun v => decide (meP v r)) = (p.2 || (vs.drop p.1).any fun v => decide (meP v r))) (fun p => vs.length - p.1) (a := (0, false)) ⟨Nat.zero_le _, by simp⟩ ?_ ?_
    ·
      cases o with
      | nil =>
        simp only [List.map_cons, List.map_nil, subs, List.cons.injEq] at frO
        exact Wkn.to ⟨0, [(1, 1)], [], 2, [0, 1, 5, 6, 7, 8]⟩ rfl rfl (by simp [Wk.st, keepT, memN, Wk.fate, Wk.fate0, assoc, getE, Wk.hp, ABlk.sub, sub1, subs, S53b, iA, iH, free_Rq, free_Vi, frO])
        
      | cons x0 r0 =>
        simp only [List.map_cons, List.map_nil, subs, List.cons.injEq] at frO
        exact Wkn.to ⟨0, [(1, 1)], [], 2, [0, 1, 5, 6, 7, 8]⟩ rfl rfl (by simp [Wk.st, keepT, memN, Wk.fate, Wk.fate0, assoc, getE, Wk.hp, ABlk.sub, sub1, subs, S53b, iA, iH, free_Rq, free_Vi, frO])
        
    rintro f2 ⟨k, b⟩ ⟨hk, hb⟩ go2
    simp only at hk hb
    have stay : ∀ (b : Bool) (k : Nat) (t : List AV) (n : Nat), keepF [0, 1, 5, 6, 7, 8] 0 t = (S53b vs rs i o (k, b)).tm → Wkn 0 ⟨t, iH o, 2⟩ (S53b vs rs i o (k, b)) := fun b k t n h => Wkn.keep [0, 1, 5, 6, 7, 8] h
    rcases Nat.lt_or_ge k vs.length with hlt2 | hlt2
    · have q1 : decide ((k : Int) < (vs.length : Int)) = true := lt_t hlt2
      have q2 : (vs.map eVi)[k]? = some (eVi vs[k]) := get_e eVi vs hlt2
      have q3 : IntKind.wrap .i64 ((k : Int) + 1) = ((k + 1 : Nat) : Int) := suc_w (by omega)
      have hvd := hv2 vs[k] (by simp)
      rw [List.drop_eq_getElem_cons hlt2, List.any_cons] at hb
      generalize vs[k] = v at *
      have ym := x_rMeets r ⟨v.az, v.el⟩ (by simp only [eq_iff_iff, iff_true]; exact ⟨hrd, hvd⟩)
      have hme : decide (rmP r ⟨v.az, v.el⟩) = decide (meP v r) := decide_eq_decide.2 (meP_rm v r).symm
      rw [hme] at ym
      generalize decide (meP v r) = mv at *
      cases b with
      | true =>
        simp +contextual -implicitDefEqProofs (maxSteps := 2000000) only [S53b, q1, q2, q3, e2, ym, List.length_map, ruB, rh_no, Int.reduceLT, Int.reduceLE, Int.reduceAdd, Int.reduceSub, Int.reduceMul, Int.reduceNeg, Int.reduceToNat, Int.reduceEq, Int.reduceNe, Int.reduceTDiv, Int.reduceTMod, implies_true, putL, appN, appX, appC, Eng.Fi, reduceCtorEq, exists_eq_left', exists_eq_left, if_true, if_false, List.replicate, Nat.reduceAdd, Nat.reduceSub, Nat.reduceMul, Nat.reduceLeDiff, Nat.reduceLT, Nat.reduceEqDiff]
        exact go2 _ (k + 1, true) ⟨hlt2, by rw [hb]; simp⟩ (by simp only; omega) (Wkn.keep [0, 1, 5, 6, 7, 8] rfl)
      | false =>
        simp +contextual -implicitDefEqProofs (maxSteps := 2000000) only [S53b, q1, q2, q3, e2, ym, List.length_map, ruB, rh_no, Int.reduceLT, Int.reduceLE, Int.reduceAdd, Int.reduceSub, Int.reduceMul, Int.reduceNeg, Int.reduceToNat, Int.reduceEq, Int.reduceNe, Int.reduceTDiv, Int.reduceTMod, implies_true, putL, appN, appX, appC, Eng.Fi, reduceCtorEq, exists_eq_left', exists_eq_left, if_true, if_false, List.replicate, Nat.reduceAdd, Nat.reduceSub, Nat.reduceMul, Nat.reduceLeDiff, Nat.reduceLT, Nat.reduceEqDiff]
        exact go2 _ (k + 1, mv) ⟨hlt2, by rw [hb, Bool.false_or]⟩ (by simp only; omega) (Wkn.keep [0, 1, 5, 6, 7, 8] rfl)
    · have q1 : decide ((k : Int) < (vs.length : Int)) = false := lt_f hlt2
      rw [List.drop_eq_nil_of_le hlt2, List.any_nil, Bool.or_false] at hb
      rw [hb] at hf
      cases b with
      | true =>
        simp only [if_true] at hf
        cases o with
        | nil =>
          simp only [List.map_cons, List.map_nil, subs, List.cons.injEq] at frO
          simp +contextual -implicitDefEqProofs (maxSteps := 2000000) only [S53b, iA, iH, q1, e3, List.length_map, ruB, rh_no, Int.reduceLT, Int.reduceLE, Int.reduceAdd, Int.reduceSub, Int.reduceMul, Int.reduceNeg, Int.reduceToNat, Int.reduceEq, Int.reduceNe, Int.reduceTDiv, Int.reduceTMod, implies_true, putL, appN, appX, appC, Eng.Fi, reduceCtorEq, exists_eq_left', exists_eq_left, if_true, if_false, List.replicate, Nat.reduceAdd, Nat.reduceSub, Nat.reduceMul, Nat.reduceLeDiff, Nat.reduceLT, Nat.reduceEqDiff]
          exact go _ (i + 1, []) ⟨hlt, hf⟩ (by simp only; omega) (Wkn.to ⟨0, [(1, 1)], [], 2, [0, 1, 5, 6]⟩ rfl rfl (by simp [Wk.st, keepT, memN, Wk.fate, Wk.fate0, assoc, getE, Wk.hp, ABlk.sub, sub1, subs, S53a, iA, iH, free_Rq, free_Vi, frO]))
          
        | cons x0 r0 =>
          simp only [List.map_cons, List.map_nil, subs, List.cons.injEq] at frO
          simp +contextual -implicitDefEqProofs (maxSteps := 2000000) only [S53b, iA, iH, q1, e3, List.length_map, ruB, rh_no, Int.reduceLT, Int.reduceLE, Int.reduceAdd, Int.reduceSub, Int.reduceMul, Int.reduceNeg, Int.reduceToNat, Int.reduceEq, Int.reduceNe, Int.reduceTDiv, Int.reduceTMod, implies_true, putL, appN, appX, appC, Eng.Fi, reduceCtorEq, exists_eq_left', exists_eq_left, if_true, if_false, List.replicate, Nat.reduceAdd, Nat.reduceSub, Nat.reduceMul, Nat.reduceLeDiff, Nat.reduceLT, Nat.reduceEqDiff]
          exact go _ (i + 1, (x0 :: r0)) ⟨hlt, hf⟩ (by simp only; omega) (Wkn.to ⟨0, [(1, 1)], [], 2, [0, 1, 5, 6]⟩ rfl rfl (by simp [Wk.st, keepT, memN, Wk.fate, Wk.fate0, assoc, getE, Wk.hp, ABlk.sub, sub1, subs, S53a, iA, iH, free_Rq, free_Vi, frO]))
          
      | false =>
        simp only [Bool.false_eq_true, if_false] at hf
        have hf2 : umL vs 0 rs = (o ++ [(i : Int)]) ++ umL vs (i + 1) (rs.drop (i + 1)) := by rw [hf, List.append_assoc]; rfl
        cases o with
        | nil =>
          simp only [List.length_nil, List.length_cons, Nat.zero_add] at m1 m2
          simp only [List.map_cons, List.map_nil, subs, List.cons.injEq] at frO
          simp +contextual -implicitDefEqProofs (maxSteps := 2000000) only [S53b, iA, iH, q1, e3, rs_nil, rs_t, rs_f, ag_nils, ag_sl, ag_vs, ag_str, ag_ptr, ag_nilp, ag_vp, ag_fun, m1, m2, List.map_cons, List.length_map, ruB, rh_no, Int.reduceLT, Int.reduceLE, Int.reduceAdd, Int.reduceSub, Int.reduceMul, Int.reduceNeg, Int.reduceToNat, Int.reduceEq, Int.reduceNe, Int.reduceTDiv, Int.reduceTMod, implies_true, putL, appN, appX, appC, Eng.Fi, reduceCtorEq, exists_eq_left', exists_eq_left, if_true, if_false, List.replicate, Nat.reduceAdd, Nat.reduceSub, Nat.reduceMul, Nat.reduceLeDiff, Nat.reduceLT, Nat.reduceEqDiff]
          exact go _ (i + 1, [] ++ [(i : Int)]) ⟨hlt, hf2⟩ (by simp only; omega) (Wkn.to ⟨0, [(2, 1)], [], 2, [0, 1, 5, 6]⟩ rfl rfl (by simp [Wk.st, keepT, memN, Wk.fate, Wk.fate0, assoc, getE, Wk.hp, ABlk.sub, sub1, subs, S53a, iA, iH, free_Rq, free_Vi, subs_append, frO]))
          
        | cons x0 r0 =>
          simp only [List.length_nil, List.length_cons, Nat.zero_add] at m1 m2
          simp only [List.map_cons, List.map_nil, subs, List.cons.injEq] at frO
          simp +contextual -implicitDefEqProofs (maxSteps := 2000000) only [S53b, iA, iH, q1, e3, rs_nil, rs_t, rs_f, ag_nils, ag_sl, ag_vs, ag_str, ag_ptr, ag_nilp, ag_vp, ag_fun, m1, m2, List.map_cons, List.length_map, ruB, rh_no, Int.reduceLT, Int.reduceLE, Int.reduceAdd, Int.reduceSub, Int.reduceMul, Int.reduceNeg, Int.reduceToNat, Int.reduceEq, Int.reduceNe, Int.reduceTDiv, Int.reduceTMod, implies_true, putL, appN, appX, appC, Eng.Fi, reduceCtorEq, exists_eq_left', exists_eq_left, if_true, if_false, List.replicate, Nat.reduceAdd, Nat.reduceSub, Nat.reduceMul, Nat.reduceLeDiff, Nat.reduceLT, Nat.reduceEqDiff]
          exact go _ (i + 1, (x0 :: r0) ++ [(i : Int)]) ⟨hlt, hf2⟩ (by simp only; omega) (Wkn.to ⟨0, [(2, 1)], [], 2, [0, 1, 5, 6]⟩ rfl rfl (by simp [Wk.st, keepT, memN, Wk.fate, Wk.fate0, assoc, getE, Wk.hp, ABlk.sub, sub1, subs, S53a, iA, iH, free_Rq, free_Vi, subs_append, frO]))
          
  · have e1 : decide ((i : Int) < (rs.length : Int)) = false := lt_f hlt
    rw [List.drop_eq_nil_of_le hlt, umL, List.append_nil] at hf
    rw [hf]
    cases o with
    | nil =>
      have t2 : ∀ r : List Int, (r.map eI).take r.length = r.map eI := fun r => by rw [List.take_of_length_le]; simp
      simp only [List.map_cons, List.map_nil, subs, List.cons.injEq] at frO
      simp +contextual -implicitDefEqProofs (maxSteps := 2000000) only [S53a, iA, iH, e1, List.map_nil, List.map_cons, List.length_map, t2, Nat.le_refl, frO, ruB, rh_no, Int.reduceLT, Int.reduceLE, Int.reduceAdd, Int.reduceSub, Int.reduceMul, Int.reduceNeg, Int.reduceToNat, Int.reduceEq, Int.reduceNe, Int.reduceTDiv, Int.reduceTMod, implies_true, putL, appN, appX, appC, Eng.Fi, reduceCtorEq, exists_eq_left', exists_eq_left, if_true, if_false, List.replicate, Nat.reduceAdd, Nat.reduceSub, Nat.reduceMul, Nat.reduceLeDiff, Nat.reduceLT, Nat.reduceEqDiff]
      
    | cons x0 r0 =>
      have t2 : ∀ r : List Int, (r.map eI).take r.length = r.map eI := fun r => by rw [List.take_of_length_le]; simp
      simp only [List.map_cons, List.map_nil, subs, List.cons.injEq] at frO
      simp +contextual -implicitDefEqProofs (maxSteps := 2000000) only [S53a, iA, iH, e1, List.map_nil, List.map_cons, List.length_map, t2, Nat.le_refl, frO, ruB, rh_no, Int.reduceLT, Int.reduceLE, Int.reduceAdd, Int.reduceSub, Int.reduceMul, Int.reduceNeg, Int.reduceToNat, Int.reduceEq, Int.reduceNe, Int.reduceTDiv, Int.reduceTMod, implies_true, putL, appN, appX, appC, Eng.Fi, reduceCtorEq, exists_eq_left', exists_eq_left, if_true, if_false, List.replicate, Nat.reduceAdd, Nat.reduceSub, Nat.reduceMul, Nat.reduceLeDiff, Nat.reduceLT, Nat.reduceEqDiff]
      
def cf_rUnmet : List AV → Option AV
  | [.vs vs_v, .vs rs_v] => onL dVi vs_v fun vs => onL dRq rs_v fun rs => if unB vs rs then some (.vs ((umL vs 0 rs).map eI)) else none
  | _ => none
theorem g_rUnmet : Fn P 53 cf_rUnmet := fun args v hh => by
  unfold cf_rUnmet at hh; split at hh
  · obtain ⟨vs, rfl, hh1⟩ := onL_inv dVi_inv hh
    obtain ⟨rs, rfl, hh2⟩ := onL_inv dRq_inv hh1
    split at hh2
    · rename_i hc; have hk := Option.some.inj hh2; subst hk; exact k_rUnmet _ _ hc
    · cases hh2
  · cases hh
theorem x_rUnmet (vs : List Vi) (rs : List Rq) (hc : (unB vs rs) = True) : cf_rUnmet [.vs (vs.map eVi), .vs (rs.map eRq)] = some (.vs ((umL vs 0 rs).map eI)) := by
  simp only [cf_rUnmet, onL_map dRq_e, onL_map dVi_e]
  exact if_pos (by rw [hc]; trivial)
def gaB (l : List Vi) (r : Rq) : Prop := (l.length ≤ 1000 ∧ drR ⟨r.az, r.el⟩) ∧ ∀ v ∈ l, drR ⟨v.az, v.el⟩ ∧ (0 ≤ v.fr ∧ v.fr ≤ 100000) ∧ 0 ≤ v.to ∧ v.to ≤ 100000
instance (l : List Vi) (r : Rq) : Decidable (gaB l r) := by unfold gaB; infer_instance
def S56 (r : Rq) (vs : List Vi) (p : Nat × Int × Int × Bool) : AState := ⟨[.vs (vs.map eVi), .any, .any, .ptr 0 3 0 0, .any, .any, I p.2.1, I p.2.2.1, .bool p.2.2.2, I p.1, .any, .any, .any, .any, .any, .any, .any, .any, .any, .any, .any, .any, .any, .any, .any, .any, .any, .any, .any, .any, .any, .any, .any, .any, .any, .any, .any, .any, .any, .any, .any, .any, .any, .any, .any, .any], [⟨0, 0, .rows 93 3 [eRq r]⟩], 1⟩
def gaV (x : Vi) (p : Int × Int × Bool) : AV := .tup [I (max p.1 (x.to - p.2.1)), .bool p.2.2]
theorem k_rGap (vs : List Vi) (r : Rq) (x : Vi) (hx : vs.getLast? = some x) (hc : gaB vs r) : FOk P 56 [.vs (vs.map eVi), eRq r] (gaV x (gpG r (0, 0, false) vs)) := by
  obtain ⟨⟨hl, hrd⟩, hv⟩ := hc
  have yd := x_rDuration vs x hx hl
  have hxv := hv x (List.mem_of_getLast? hx)
  refine c56.fok (by simp only [subs, sub1, free_Vi]) (Cor.run (addC_good g_rDuration (addC_good g_rMeets (noC_good _))) (noHx_good _) hm ?_)
  simp +contextual -implicitDefEqProofs (maxSteps := 2000000) only [bg_eq, a56, List.length_map, ruB, rh_no, Int.reduceLT, Int.reduceLE, Int.reduceAdd, Int.reduceSub, Int.reduceMul, Int.reduceNeg, Int.reduceToNat, Int.reduceEq, Int.reduceNe, Int.reduceTDiv, Int.reduceTMod, implies_true, putL, appN, appX, appC, Eng.Fi, reduceCtorEq, exists_eq_left', exists_eq_left, if_true, if_false, List.replicate, Nat.reduceAdd, Nat.reduceSub, Nat.reduceMul, Nat.reduceLeDiff, Nat.reduceLT, Nat.reduceEqDiff]
  refine Cor.lp (addC_good g_rDuration (addC_good g_rMeets (noC_good _))) (noHx_good _) hm (S56 r vs) (fun p => p.1 ≤ vs.length ∧ ((0 ≤ p.2.1 ∧ p.2.1 ≤ 100000) ∧ 0 ≤ p.2.2.1 ∧ p.2.2.1 ≤ 100000) ∧ gpG r (0, 0, false) vs = gpG r p.2 (vs.drop p.1)) (fun p => vs.length - p.1) (a := (0, 0, 0, false)) ⟨Nat.zero_le _, by simp, rfl⟩ (Wkn.to ⟨0, [(0, 0)], [], 1, [0, 3, 6, 7, 8, 9]⟩ rfl rfl (by simp [Wk.st, keepT, memN, Wk.fate, Wk.fate0, assoc, getE, Wk.hp, ABlk.sub, sub1, subs, free_Vi, S56])) ?_
  rintro f ⟨i, g, e, b⟩ ⟨hi, ⟨⟨b1, b2⟩, b3, b4⟩, hf⟩ go
  simp only at hi b1 b2 b3 b4 hf
  rcases Nat.lt_or_ge i vs.length with hlt | hlt
  · have e1 : decide ((i : Int) < (vs.length : Int)) = true := lt_t hlt
    have e2 : (vs.map eVi)[i]? = some (eVi vs[i]) := get_e eVi vs hlt
    have e3 : IntKind.wrap .i64 ((i : Int) + 1) = ((i + 1 : Nat) : Int) := suc_w (by omega)
    have hvi := hv vs[i] (by simp)
    rw [List.drop_eq_getElem_cons hlt, gpG] at hf
    generalize vs[i] = v at *
    have ym := x_rMeets r ⟨v.az, v.el⟩ (by simp only [eq_iff_iff, iff_true]; exact ⟨hrd, hvi.1⟩)
    have hme : decide (rmP r ⟨v.az, v.el⟩) = decide (meP v r) := decide_eq_decide.2 (meP_rm v r).symm
    rw [hme] at ym
    have w1 : IntKind.wrap .i64 (v.fr - e) = v.fr - e := wrap64 (by omega) (by omega)
    by_cases hm' : meP v r
    · rw [if_pos hm'] at hf
      rw [decide_eq_true hm'] at ym
      simp +contextual -implicitDefEqProofs (maxSteps := 2000000) only [S56, e1, e2, e3, ym, w1, List.length_map, ruB, rh_no, Int.reduceLT, Int.reduceLE, Int.reduceAdd, Int.reduceSub, Int.reduceMul, Int.reduceNeg, Int.reduceToNat, Int.reduceEq, Int.reduceNe, Int.reduceTDiv, Int.reduceTMod, implies_true, putL, appN, appX, appC, Eng.Fi, reduceCtorEq, exists_eq_left', exists_eq_left, if_true, if_false, List.replicate, Nat.reduceAdd, Nat.reduceSub, Nat.reduceMul, Nat.reduceLeDiff, Nat.reduceLT, Nat.reduceEqDiff]
      exact go _ (i + 1, max g (v.fr - e), v.to, true) ⟨hlt, ⟨⟨by simp only; omega, by simp only; omega⟩, by simp only; omega, by simp only; omega⟩, hf⟩ (by simp only; omega) (Wkn.to ⟨0, [(0, 0)], [], 1, [0, 3, 6, 7, 8, 9]⟩ rfl rfl (by simp [Wk.st, keepT, memN, Wk.fate, Wk.fate0, assoc, getE, Wk.hp, ABlk.sub, sub1, subs, free_Vi, S56]))
    · rw [if_neg hm'] at hf
      rw [decide_eq_false hm'] at ym
      simp +contextual -implicitDefEqProofs (maxSteps := 2000000) only [S56, e1, e2, e3, ym, List.length_map, ruB, rh_no, Int.reduceLT, Int.reduceLE, Int.reduceAdd, Int.reduceSub, Int.reduceMul, Int.reduceNeg, Int.reduceToNat, Int.reduceEq, Int.reduceNe, Int.reduceTDiv, Int.reduceTMod, implies_true, putL, appN, appX, appC, Eng.Fi, reduceCtorEq, exists_eq_left', exists_eq_left, if_true, if_false, List.replicate, Nat.reduceAdd, Nat.reduceSub, Nat.reduceMul, Nat.reduceLeDiff, Nat.reduceLT, Nat.reduceEqDiff]
      exact go _ (i + 1, g, e, b) ⟨hlt, ⟨⟨b1, b2⟩, b3, b4⟩, hf⟩ (by simp only; omega) (Wkn.to ⟨0, [(0, 0)], [], 1, [0, 3, 6, 7, 8, 9]⟩ rfl rfl (by simp [Wk.st, keepT, memN, Wk.fate, Wk.fate0, assoc, getE, Wk.hp, ABlk.sub, sub1, subs, free_Vi, S56]))
  · have e1 : decide ((i : Int) < (vs.length : Int)) = false := lt_f hlt
    rw [List.drop_eq_nil_of_le hlt, gpG] at hf
    rw [hf]
    have w1 : IntKind.wrap .i64 (x.to - e) = x.to - e := wrap64 (by omega) (by omega)
    simp +contextual -implicitDefEqProofs (maxSteps := 2000000) only [S56, e1, yd, w1, gaV, List.length_map, ruB, rh_no, Int.reduceLT, Int.reduceLE, Int.reduceAdd, Int.reduceSub, Int.reduceMul, Int.reduceNeg, Int.reduceToNat, Int.reduceEq, Int.reduceNe, Int.reduceTDiv, Int.reduceTMod, implies_true, putL, appN, appX, appC, Eng.Fi, reduceCtorEq, exists_eq_left', exists_eq_left, if_true, if_false, List.replicate, Nat.reduceAdd, Nat.reduceSub, Nat.reduceMul, Nat.reduceLeDiff, Nat.reduceLT, Nat.reduceEqDiff]
def cf_rGap : List AV → Option AV
  | [.vs vals, .agg [.int .i64 a, .int .i64 b, .int .i64 c]] => onL dVi vals fun l => if gaB l ⟨a, b, c⟩ then (l.getLast?).map fun x => gaV x (gpG ⟨a, b, c⟩ (0, 0, false) l) else none
  | _ => none
theorem g_rGap : Fn P 56 cf_rGap := fun args v hh => by
  unfold cf_rGap at hh; split at hh
  · obtain ⟨l, rfl, h1⟩ := onL_inv dVi_inv hh
    split at h1
    · rename_i hc
      cases hx : l.getLast? with
      | none => rw [hx] at h1; cases h1
      | some x => rw [hx] at h1; cases h1; exact k_rGap l ⟨_, _, _⟩ x hx hc
    · cases h1
  · cases hh
theorem x_rGap (l : List Vi) (r : Rq) (x : Vi) (h1 : l.getLast? = some x) (h2 : gaB l r) : cf_rGap [.vs (l.map eVi), .agg [I r.az, I r.el, I r.tol]] = some (gaV x (gpG r (0, 0, false) l)) := by
  simp only [cf_rGap, onL_map dVi_e]
  rw [if_pos h2, h1]; rfl
def asc : Int → List Vi → Prop
  | _, [] => True
  | T, v :: q => T ≤ v.fr ∧ v.fr ≤ v.to ∧ asc v.to q
theorem visL_asc {h : Hd} (h2 : axR h.ra h.aa) (h3 : axR h.re h.ae) : ∀ {ss : List St} {t : Int} {d : Dr}, (∀ s ∈ ss, stR s) → drR d → asc t (visL h t d ss)
  | [], _, _, _, _ => trivial
  | s :: r, t, d, hs, hd => by
    have hs1 := hs s (by simp)
    have hb := mvT_bd (h := h) (a := d) (b := stD s) ⟨⟨h2, h3⟩, hd, hs1.1⟩
    have ht := hs1.2
    rw [visL]
    exact ⟨by simp only; omega, by simp only; omega, visL_asc h2 h3 (fun s hs' => hs s (by simp [hs'])) hs1.1⟩
theorem asc_last : ∀ {l : List Vi} {T : Int} {x : Vi}, asc T l → l.getLast? = some x → T ≤ x.to ∧ ∀ v ∈ l, v.to ≤ x.to
  | [], _, _, _, hx => by cases hx
  | [v], T, x, h, hx => by
    have hx : v = x := Option.some.inj hx
    subst hx
    obtain ⟨a, b, _⟩ := h
    exact ⟨by omega, fun v hv => by rw [List.mem_singleton.1 hv]; omega⟩
  | v :: w :: q, T, x, h, hx => by
    rw [List.getLast?_cons_cons] at hx
    obtain ⟨a, b, c⟩ := h
    obtain ⟨h1, h2⟩ := asc_last c hx
    refine ⟨by omega, fun u hu => ?_⟩
    rcases List.mem_cons.1 hu with rfl | hu
    · exact h1
    · exact h2 u hu
theorem gap_mono {r r' : Rq} (h1 : r'.az = r.az) (h2 : r'.el = r.el) (h3 : r.tol ≤ r'.tol) (D : Int) : ∀ (l : List Vi) (T : Int) (p p' : Int × Int × Bool), asc T l → (∀ v ∈ l, v.to ≤ D) → T ≤ D → p.2.1 ≤ T → p.2.1 ≤ p'.2.1 → p'.1 ≤ max p.1 (T - p.2.1) → (p.2.2 = true → p'.2.2 = true) →
    max (gpG r' p' l).1 (D - (gpG r' p' l).2.1) ≤ max (gpG r p l).1 (D - (gpG r p l).2.1) ∧ ((gpG r p l).2.2 = true → (gpG r' p' l).2.2 = true)
  | [], T, p, p', _, _, c1, c2, c3, c4, c5 => by
    simp only [gpG]
    exact ⟨by omega, c5⟩
  | v :: q, T, p, p', ha, hD, c1, c2, c3, c4, c5 => by
    obtain ⟨a1, a2, a3⟩ := ha
    have hvD := hD v (by simp)
    have hq : ∀ v ∈ q, v.to ≤ D := fun v hv => hD v (by simp [hv])
    have himp : meP v r → meP v r' := fun h => by
      rw [meP_two] at h ⊢; rw [h1, h2]; omega
    rw [gpG, gpG]
    by_cases m : meP v r
    · rw [if_pos m, if_pos (himp m)]
      exact gap_mono h1 h2 h3 D q v.to _ _ a3 hq hvD (Int.le_refl _) (Int.le_refl _) (by simp only; omega) (fun _ => rfl)
    · rw [if_neg m]
      by_cases m' : meP v r'
      · rw [if_pos m']
        exact gap_mono h1 h2 h3 D q v.to _ _ a3 hq hvD (by omega) (by simp only; omega) (by simp only; omega) (fun _ => rfl)
      · rw [if_neg m']
        exact gap_mono h1 h2 h3 D q v.to _ _ a3 hq hvD (by omega) c3 (by omega) c5
theorem gap_dur {r : Rq} (D : Int) : ∀ (l : List Vi) (T : Int) (p : Int × Int × Bool), asc T l → (∀ v ∈ l, v.to ≤ D) → 0 ≤ T → p.1 ≤ D → 0 ≤ p.2.1 → max (gpG r p l).1 (D - (gpG r p l).2.1) ≤ D
  | [], T, p, _, _, _, c1, c2 => by simp only [gpG]; omega
  | v :: q, T, p, ha, hD, c0, c1, c2 => by
    obtain ⟨a1, a2, a3⟩ := ha
    have hvD := hD v (by simp)
    have hq : ∀ v ∈ q, v.to ≤ D := fun v hv => hD v (by simp [hv])
    rw [gpG]
    split
    · exact gap_dur D q v.to _ a3 hq (by omega) (by simp only; omega) (by simp only; omega)
    · exact gap_dur D q v.to _ a3 hq (by omega) c1 c2
end Sc
