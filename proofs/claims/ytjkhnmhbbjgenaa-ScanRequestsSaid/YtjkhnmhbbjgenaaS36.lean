import Derived.Test.YtjkhnmhbbjgenaaEngS9
import Derived.Test.YtjkhnmhbbjgenaaS35
open Go Go.Proofs Eng
set_option maxRecDepth 100000
set_option linter.unusedSimpArgs false
set_option linter.unusedVariables false
def a49 : AC := .seq (.ops false [] [⟨some 3, .box 42 7 1 true, [.t 0], none⟩, ⟨some 6, .p (.mov), [.c (.nilslice)], none⟩, ⟨some 7, .p (.mov), [.c (.int .i64 0)], none⟩]) (.seq (.ops false [] [⟨some 16, .load 7 true, [.t 3], none⟩, ⟨some 17, .p (.mov), [.t 1], none⟩, ⟨some 18, .call 83, [.t 16, .t 17], none⟩, ⟨some 15, .p (.mov), [.t 18], none⟩, ⟨some 19, .p (.ext 0), [.t 15], none⟩, ⟨some 20, .p (.ext 1), [.t 15], none⟩, ⟨some 8, .p (.mov), [.t 19], none⟩, ⟨some 9, .p (.mov), [.t 20], none⟩]) (.seq (.ops false [] [⟨some 21, .p (.mov), [.t 9], none⟩, ⟨some 22, .p (.mov), [.t 2], none⟩, ⟨some 23, .p (.lenS), [.t 22], none⟩, ⟨some 24, .p (.binI .leq), [.t 23, .c (.int .i64 10)], none⟩, ⟨some 25, .call 79, [.t 24, .c (.int .i64 8)], none⟩, ⟨some 26, .fbs 1, [.t 21, .t 25], none⟩, ⟨some 27, .call 86, [.t 26], none⟩, ⟨some 9, .p (.mov), [.t 27], none⟩]) (.seq (.seq (.ops false [] [⟨some 28, .p (.mov), [.t 2], none⟩, ⟨some 29, .p (.lenS), [.t 28], none⟩, ⟨some 30, .p (.mov), [.c (.int .i64 0)], none⟩]) (.block 0 (.loop (.seq (.ops false [] [⟨some 31, .p (.binI .lss), [.t 30, .t 29], none⟩]) (.seq (.cond (.t 31) (.skip) (.exit 0)) (.seq (.block 1 (.seq (.ops false [] [⟨some 32, .p (.iaddrS 3), [.t 28, .t 30], none⟩, ⟨some 33, .load 3 true, [.t 32], none⟩, ⟨some 11, .alloc 93 3 [.agg [.int .i64 0, .int .i64 0, .int .i64 0]], [], none⟩, ⟨none, .store 3 true, [.t 11, .t 33], none⟩]) (.ops false [] [⟨some 34, .p (.mov), [.t 9], none⟩, ⟨some 35, .load 3 true, [.t 11], none⟩, ⟨some 36, .call 99, [.t 35], none⟩, ⟨some 37, .fbs 1, [.t 34, .t 36], none⟩, ⟨some 38, .call 86, [.t 37], none⟩, ⟨some 9, .p (.mov), [.t 38], none⟩]))) (.ops false [] [⟨some 39, .p (.binI .add), [.t 30, .c (.int .i64 1)], none⟩, ⟨some 30, .p (.mov), [.t 39], none⟩]))))))) (.seq (.seq (.ops false [] [⟨some 40, .p (.mov), [.t 9], none⟩, ⟨some 41, .p (.binI .neq), [.t 40, .c (.int .i64 0)], none⟩]) (.cond (.t 41) (.seq (.ops false [] [⟨some 42, .p (.mov), [.t 9], none⟩, ⟨some 6, .p (.mov), [.c (.nilslice)], none⟩, ⟨some 7, .p (.mov), [.t 42], none⟩]) (.ret)) (.skip))) (.seq (.ops false [] [⟨some 12, .p (.mov), [.c (.nilslice)], none⟩]) (.seq (.seq (.ops false [] [⟨some 43, .p (.mov), [.t 2], none⟩, ⟨some 44, .p (.lenS), [.t 43], none⟩, ⟨some 45, .p (.mov), [.c (.int .i64 0)], none⟩]) (.block 2 (.loop (.seq (.ops false [] [⟨some 46, .p (.binI .lss), [.t 45, .t 44], none⟩]) (.seq (.cond (.t 46) (.skip) (.exit 2)) (.seq (.block 3 (.seq (.ops false [] [⟨some 47, .p (.mov), [.t 45], none⟩, ⟨some 48, .p (.iaddrS 3), [.t 43, .t 45], none⟩, ⟨some 49, .load 3 true, [.t 48], none⟩, ⟨some 14, .alloc 93 3 [.agg [.int .i64 0, .int .i64 0, .int .i64 0]], [], none⟩, ⟨some 13, .p (.mov), [.t 47], none⟩, ⟨none, .store 3 true, [.t 14, .t 49], none⟩]) (.seq (.ops false [] [⟨some 50, .p (.mov), [.t 8], none⟩, ⟨some 51, .p (.mkfn 101 0), [.t 14], none⟩, ⟨some 52, .call 100, [.t 50, .t 51], none⟩, ⟨some 53, .p (.notB), [.t 52], none⟩]) (.cond (.t 53) (.ops false [] [⟨some 54, .p (.mov), [.t 12], none⟩, ⟨some 55, .p (.mov), [.t 13], none⟩, ⟨some 56, .fbs 1, [.t 55], none⟩, ⟨some 57, .app 3 1 8, [.t 54, .t 56], none⟩, ⟨some 12, .p (.mov), [.t 57], none⟩]) (.skip))))) (.ops false [] [⟨some 58, .p (.binI .add), [.t 45, .c (.int .i64 1)], none⟩, ⟨some 45, .p (.mov), [.t 58], none⟩]))))))) (.seq (.ops false [] [⟨some 59, .p (.mov), [.t 12], none⟩, ⟨some 6, .p (.mov), [.t 59], none⟩, ⟨some 7, .p (.mov), [.c (.int .i64 0)], none⟩]) (.ret))))))))
theorem c49 : FnC Try.prog 49 60 a49 [.tmp 6, .tmp 7] := ⟨Try.call49, _, _, Try.func49, rfl, by kernel_rfl, by kernel_rfl, rfl⟩
namespace Sc
def umG : Int → List Rq → Int
  | e, [] => e
  | e, r :: l => umG (firstE [e, rqE r]) l
def umE (h : Hd) (l : Sps) (rs : List Rq) : Int := umG (firstE [vsE h l, unl ((rs.length : Int) ≤ 10) 8]) rs
theorem fE2 (a b : Int) : firstE [a, b] = if a = 0 then b else a := by
  have h : firstE [a, b] = if a = 0 then (if b = 0 then 0 else b) else a := rfl
  rw [h]
  by_cases h1 : a = 0
  · rw [if_pos h1, if_pos h1]
    by_cases h2 : b = 0
    · rw [if_pos h2, h2]
    · rw [if_neg h2]
  · rw [if_neg h1, if_neg h1]
theorem umG_val : ∀ (l : List Rq) (e : Int), umG e l = if e = 0 then rqF l else e
  | [], e => by
    rw [umG, rqF]; split
    · rename_i h; exact h
    · rfl
  | r :: l, e => by
    rw [umG, umG_val l, fE2, rqF]
    by_cases h : e = 0
    · rw [if_pos h, if_pos h]
    · rw [if_neg h, if_neg h, if_neg h]
theorem umE_val (h : Hd) (l : Sps) (rs : List Rq) : umE h l rs = if vsE h l = 0 then rqsE rs else vsE h l := by
  unfold umE rqsE
  rw [umG_val, fE2]
  by_cases h1 : vsE h l = 0
  · rw [if_pos h1, if_pos h1]
    by_cases h2 : (rs.length : Int) ≤ 10
    · rw [unl_t 8 h2, if_pos rfl, if_pos h2]
    · rw [unl_f 8 h2, if_neg (by decide : ¬ (8 : Int) = 0), if_neg h2]
  · rw [if_neg h1, if_neg h1, if_neg h1]
theorem rqF_zero : ∀ {l : List Rq}, rqF l = 0 → ∀ r ∈ l, rqE r = 0
  | [], _, r, hr => by simp at hr
  | x :: l, h, r, hr => by
    rw [rqF] at h
    split at h
    · rename_i h0
      rcases List.mem_cons.1 hr with rfl | hr
      · exact h0
      · exact rqF_zero h r hr
    · rename_i h0; exact absurd h h0
theorem rqE_dr {r : Rq} (h : rqE r = 0) : drR ⟨r.az, r.el⟩ := drE_zero (firstE_zero h _ (by simp))
/-- which are not met -/
def umL (vs : List Vi) : Nat → List Rq → List Int
  | _, [] => []
  | n, r :: l => if (vs.any fun v => decide (meP v r)) = true then umL vs (n + 1) l else (n : Int) :: umL vs (n + 1) l
def umV (h : Hd) (l : Sps) (rs : List Rq) : AV := if umE h l rs = 0 then .tup [.vs ((umL (vsL h l) 0 rs).map eI), I 0] else .tup [.vs [], I (umE h l rs)]
def iA : List Int → AV
  | [] => .nilslice
  | _ :: r => .slice 1 1 0 (r.length + 1)
def iH : List Int → List HEnt
  | [] => []
  | x :: r => [⟨1, 1, .rows 3 1 ((x :: r).map eI)⟩]
theorem iH_set (o : List Int) (k : ABlk) : Eng.setB (iH o) 2 2 k = iH o := setB_free fun e he => by
  cases o with
  | nil => simp [iH] at he
  | cons x r => simp only [iH, List.mem_singleton] at he; subst he; simp
def S49a (vs : List Vi) (rs : List Rq) (p : Nat × Int) : AState := ⟨[.any, .any, .vs (rs.map eRq), .any, .any, .any, .any, .any, .vs (vs.map eVi), I p.2, .any, .any, .any, .any, .any, .any, .any, .any, .any, .any, .any, .any, .any, .any, .any, .any, .any, .any, .vs (rs.map eRq), I rs.length, I p.1, .any, .any, .any, .any, .any, .any, .any, .any, .any, .any, .any, .any, .any, .any, .any, .any, .any, .any, .any, .any, .any, .any, .any, .any, .any, .any, .any, .any, .any], [], 2⟩
def S49b (vs : List Vi) (rs : List Rq) (p : Nat × List Int) : AState := ⟨[.any, .any, .any, .any, .any, .any, .any, .any, .vs (vs.map eVi), .any, .any, .any, iA p.2, .any, .any, .any, .any, .any, .any, .any, .any, .any, .any, .any, .any, .any, .any, .any, .any, .any, .any, .any, .any, .any, .any, .any, .any, .any, .any, .any, .any, .any, .any, .vs (rs.map eRq), I rs.length, I p.1, .any, .any, .any, .any, .any, .any, .any, .any, .any, .any, .any, .any, .any, .any], iH p.2, 2⟩
def S49c (vs : List Vi) (rs : List Rq) (r : Rq) (p : Nat × List Int) : AState := ⟨[.any, .any, .any, .any, .any, .any, .any, .any, .vs (vs.map eVi), .any, .any, .any, iA p.2, I p.1, .vp [eRq r] 0 0, .any, .any, .any, .any, .any, .any, .any, .any, .any, .any, .any, .any, .any, .any, .any, .any, .any, .any, .any, .any, .any, .any, .any, .any, .any, .any, .any, .any, .vs (rs.map eRq), I rs.length, I p.1, .any, .any, .any, .any, .any, .any, .any, .any, .any, .any, .any, .any, .any, .any], iH p.2, 2⟩
theorem k_UnmetBy (h : Hd) (l : Sps) (rs : List Rq) (hc : h.res.length ≤ 1099511627776 ∧ rs.length ≤ 1000) : FOk P 49 [eHd h, .vs (eSps l), .vs (rs.map eRq)] (umV h l rs) := by
  obtain ⟨hl, hrl⟩ := hc
  have y := x_visits h l (by simp only [hl])
  obtain ⟨vs, hvs, hvn⟩ : ∃ vs : List Vi, vsV h l = .tup [.vs (vs.map eVi), I (vsE h l)] ∧ (vsE h l = 0 → vs = vsL h l) := by
    by_cases h0 : vsE h l = 0
    · exact ⟨vsL h l, by rw [vsV, if_pos h0, h0], fun _ => rfl⟩
    · exact ⟨[], by rw [vsV, if_neg h0]; rfl, fun e => absurd e h0⟩
  rw [hvs] at y
  have hu0 : umE h l rs = umG (firstE [vsE h l, unl ((rs.length : Int) ≤ 10) 8]) rs := rfl
  have hvt : umV h l rs = if umE h l rs = 0 then .tup [.vs ((umL vs 0 rs).map eI), I 0] else .tup [.vs [], I (umE h l rs)] := by
    unfold umV
    by_cases hz : umE h l rs = 0
    · rw [if_pos hz, if_pos hz]
      have h0 : vsE h l = 0 := by
        by_cases h0 : vsE h l = 0
        · exact h0
        · rw [umE_val, if_neg h0] at hz; exact absurd hz h0
      rw [hvn h0]
    · rw [if_neg hz, if_neg hz]
  rw [hvt]
  have hok : vsE h l = 0 → vs.length ≤ 60 ∧ ∀ v ∈ vs, drR ⟨v.az, v.el⟩ := fun h0 => by
    obtain ⟨r1, r2, r3⟩ := runs_ok h0
    have hvl : (vsL h l).length = (stopsAll 2 l).length := visL_len h _ _ _
    rw [hvn h0]
    exact ⟨by rw [hvl]; exact r2.1, visL_dr r2.2⟩
  clear hvt hvn hvs
  generalize hE : vsE h l = e0 at *
  refine c49.fok (y := YH P noHx) (by simp only [free_Hs, subs, sub1, free_Se, free_Sps, free_Rq]) ?_
  rw [bg_eq]
  refine Cor.seq (Cor.run (noC_good _) (noHx_good _) hm ?_)
  simp +contextual -implicitDefEqProofs (maxSteps := 2000000) only [eThen_normal, ruH, ruB, Int.reduceLT, Int.reduceLE, Int.reduceAdd, Int.reduceSub, Int.reduceMul, Int.reduceNeg, Int.reduceToNat, Int.reduceEq, Int.reduceNe, Int.reduceTDiv, Int.reduceTMod, implies_true, putL, appN, appX, appC, Eng.Fi, reduceCtorEq, exists_eq_left', exists_eq_left, if_true, if_false, List.replicate, Nat.reduceAdd, Nat.reduceSub, Nat.reduceMul, Nat.reduceLeDiff, Nat.reduceLT, Nat.reduceEqDiff]
  refine Cor.seq (Cor.run (addC_good g_visits (noC_good _)) (noHx_good _) hm ?_)
  simp +contextual -implicitDefEqProofs (maxSteps := 2000000) only [y, free_Vi, eThen_normal, ruH, ruB, Int.reduceLT, Int.reduceLE, Int.reduceAdd, Int.reduceSub, Int.reduceMul, Int.reduceNeg, Int.reduceToNat, Int.reduceEq, Int.reduceNe, Int.reduceTDiv, Int.reduceTMod, implies_true, putL, appN, appX, appC, Eng.Fi, reduceCtorEq, exists_eq_left', exists_eq_left, if_true, if_false, List.replicate, Nat.reduceAdd, Nat.reduceSub, Nat.reduceMul, Nat.reduceLeDiff, Nat.reduceLT, Nat.reduceEqDiff]
  refine Cor.seq (Cor.run (addC_good g_first (addC_good g_unless (noC_good _))) (noHx_good _) hm ?_)
  simp +contextual -implicitDefEqProofs (maxSteps := 2000000) only [x_unless, x_first, y_first, List.length_map, eThen_normal, ruH, ruB, Int.reduceLT, Int.reduceLE, Int.reduceAdd, Int.reduceSub, Int.reduceMul, Int.reduceNeg, Int.reduceToNat, Int.reduceEq, Int.reduceNe, Int.reduceTDiv, Int.reduceTMod, implies_true, putL, appN, appX, appC, Eng.Fi, reduceCtorEq, exists_eq_left', exists_eq_left, if_true, if_false, List.replicate, Nat.reduceAdd, Nat.reduceSub, Nat.reduceMul, Nat.reduceLeDiff, Nat.reduceLT, Nat.reduceEqDiff]
  refine Cor.run (addC_good g_ContainsFuncV (addC_good g_requestErr (addC_good g_first (addC_good g_unless (noC_good _))))) (noHx_good _) hm ?_
  simp +contextual -implicitDefEqProofs (maxSteps := 2000000) only [List.length_map, ruH, ruB, Int.reduceLT, Int.reduceLE, Int.reduceAdd, Int.reduceSub, Int.reduceMul, Int.reduceNeg, Int.reduceToNat, Int.reduceEq, Int.reduceNe, Int.reduceTDiv, Int.reduceTMod, implies_true, putL, appN, appX, appC, Eng.Fi, reduceCtorEq, exists_eq_left', exists_eq_left, if_true, if_false, List.replicate, Nat.reduceAdd, Nat.reduceSub, Nat.reduceMul, Nat.reduceLeDiff, Nat.reduceLT, Nat.reduceEqDiff]
  refine Cor.lp (addC_good g_ContainsFuncV (addC_good g_requestErr (addC_good g_first (addC_good g_unless (noC_good _))))) (noHx_good _) hm (S49a vs rs) (fun p => p.1 ≤ rs.length ∧ umE h l rs = umG p.2 (rs.drop p.1)) (fun p => rs.length - p.1) (a := (0, firstE [e0, unl ((rs.length : Int) ≤ 10) 8])) ⟨Nat.zero_le _, hu0⟩ (Wkn.to ⟨0, [], [], 2, [2, 8, 9, 28, 29, 30]⟩ rfl rfl (by simp [Wk.st, keepT, memN, Wk.fate, Wk.fate0, assoc, getE, Wk.hp, ABlk.sub, sub1, subs, S49a, free_Rq, free_Vi])) ?_
  rintro f ⟨i, e⟩ ⟨hi, hf⟩ go
  simp only at hi hf
  rcases Nat.lt_or_ge i rs.length with hlt | hlt
  · have e1 : decide ((i : Int) < (rs.length : Int)) = true := lt_t hlt
    have e2 : (rs.map eRq)[i]? = some (eRq rs[i]) := get_e eRq rs hlt
    have e3 : IntKind.wrap .i64 ((i : Int) + 1) = ((i + 1 : Nat) : Int) := suc_w (by omega)
    rw [List.drop_eq_getElem_cons hlt, umG] at hf
    generalize rs[i] = r at *
    have yr := x_requestErr r
    simp +contextual -implicitDefEqProofs (maxSteps := 2000000) only [S49a, e1, e2, e3, yr, x_first, y_first, ruH, ruB, Int.reduceLT, Int.reduceLE, Int.reduceAdd, Int.reduceSub, Int.reduceMul, Int.reduceNeg, Int.reduceToNat, Int.reduceEq, Int.reduceNe, Int.reduceTDiv, Int.reduceTMod, implies_true, putL, appN, appX, appC, Eng.Fi, reduceCtorEq, exists_eq_left', exists_eq_left, if_true, if_false, List.replicate, Nat.reduceAdd, Nat.reduceSub, Nat.reduceMul, Nat.reduceLeDiff, Nat.reduceLT, Nat.reduceEqDiff]
    exact go _ (i + 1, firstE [e, rqE r]) ⟨hlt, hf⟩ (by simp only; omega) (Wkn.to ⟨0, [], [], 2, [2, 8, 9, 28, 29, 30]⟩ rfl rfl (by simp [Wk.st, keepT, memN, Wk.fate, Wk.fate0, assoc, getE, Wk.hp, ABlk.sub, sub1, subs, S49a, free_Rq, free_Vi]))
  · have e1 : decide ((i : Int) < (rs.length : Int)) = false := lt_f hlt
    rw [List.drop_eq_nil_of_le hlt, umG] at hf
    subst hf
    by_cases hz : umE h l rs = 0
    · rw [if_pos hz]
      have hz' := hz
      have h0 : e0 = 0 := by
        rw [umE_val, hE] at hz'
        by_cases h0 : e0 = 0
        · exact h0
        · rw [if_neg h0] at hz'; exact hz'
      rw [umE_val, hE, if_pos h0] at hz'
      obtain ⟨hv60, hvd⟩ := hok h0
      have h10 : rs.length ≤ 10 := by
        unfold rqsE at hz'
        split at hz'
        · omega
        · cases hz'
      have hrq : ∀ r ∈ rs, drR ⟨r.az, r.el⟩ := fun r hr => by
        rw [rqsE, if_pos (by omega)] at hz'
        exact rqE_dr (rqF_zero hz' r hr)
      simp +contextual -implicitDefEqProofs (maxSteps := 2000000) only [S49a, e1, hz, List.length_map, not_true_eq_false, ruH, ruB, Int.reduceLT, Int.reduceLE, Int.reduceAdd, Int.reduceSub, Int.reduceMul, Int.reduceNeg, Int.reduceToNat, Int.reduceEq, Int.reduceNe, Int.reduceTDiv, Int.reduceTMod, implies_true, putL, appN, appX, appC, Eng.Fi, reduceCtorEq, exists_eq_left', exists_eq_left, if_true, if_false, List.replicate, Nat.reduceAdd, Nat.reduceSub, Nat.reduceMul, Nat.reduceLeDiff, Nat.reduceLT, Nat.reduceEqDiff]
      refine Cor.loopC (S49b vs rs) (fun p => p.1 ≤ rs.length ∧ umL vs 0 rs = p.2 ++ umL vs p.1 (rs.drop p.1)) (fun p => rs.length - p.1) (a := (0, [])) ?_ ⟨Nat.zero_le _, rfl⟩ (Wkn.to ⟨0, [], [], 2, [8, 12, 43, 44, 45]⟩ rfl rfl (by simp [Wk.st, keepT, memN, Wk.fate, Wk.fate0, assoc, getE, Wk.hp, ABlk.sub, sub1, subs, S49b, iA, iH, free_Rq, free_Vi]))
      rintro ⟨k, o⟩ ⟨hk, hfo⟩
      simp only at hk hfo
      rcases Nat.lt_or_ge k rs.length with hlt2 | hlt2
      · have q1 : decide ((k : Int) < (rs.length : Int)) = true := lt_t hlt2
        have q2 : (rs.map eRq)[k]? = some (eRq rs[k]) := get_e eRq rs hlt2
        have q3 : IntKind.wrap .i64 ((k : Int) + 1) = ((k + 1 : Nat) : Int) := suc_w (by omega)
        have hrd := hrq rs[k] (by simp)
        rw [List.drop_eq_getElem_cons hlt2, umL] at hfo
        generalize rs[k] = r at *
        have yc := x_ContainsFuncV vs r ⟨⟨by omega, hvd⟩, hrd⟩
        refine Cor.seq (Cor.run (addC_good g_ContainsFuncV (addC_good g_requestErr (addC_good g_first (addC_good g_unless (noC_good _))))) (noHx_good _) hm ?_)
        simp +contextual -implicitDefEqProofs (maxSteps := 2000000) only [S49b, q1, eThen_normal, ruH, ruB, Int.reduceLT, Int.reduceLE, Int.reduceAdd, Int.reduceSub, Int.reduceMul, Int.reduceNeg, Int.reduceToNat, Int.reduceEq, Int.reduceNe, Int.reduceTDiv, Int.reduceTMod, implies_true, putL, appN, appX, appC, Eng.Fi, reduceCtorEq, exists_eq_left', exists_eq_left, if_true, if_false, List.replicate, Nat.reduceAdd, Nat.reduceSub, Nat.reduceMul, Nat.reduceLeDiff, Nat.reduceLT, Nat.reduceEqDiff]
        refine Cor.seq (Cor.run (addC_good g_ContainsFuncV (addC_good g_requestErr (addC_good g_first (addC_good g_unless (noC_good _))))) (noHx_good _) hm ?_)
        simp +contextual -implicitDefEqProofs (maxSteps := 2000000) only [q1, eThen_normal, ruH, ruB, Int.reduceLT, Int.reduceLE, Int.reduceAdd, Int.reduceSub, Int.reduceMul, Int.reduceNeg, Int.reduceToNat, Int.reduceEq, Int.reduceNe, Int.reduceTDiv, Int.reduceTMod, implies_true, putL, appN, appX, appC, Eng.Fi, reduceCtorEq, exists_eq_left', exists_eq_left, if_true, if_false, List.replicate, Nat.reduceAdd, Nat.reduceSub, Nat.reduceMul, Nat.reduceLeDiff, Nat.reduceLT, Nat.reduceEqDiff]
        refine Cor.seq (Cor.block (Cor.seq (Cor.run (addC_good g_ContainsFuncV (addC_good g_requestErr (addC_good g_first (addC_good g_unless (noC_good _))))) (noHx_good _) hm ?_)))
        simp +contextual -implicitDefEqProofs (maxSteps := 2000000) only [q2, iH_set, eThen_normal, ruH, ruB, Int.reduceLT, Int.reduceLE, Int.reduceAdd, Int.reduceSub, Int.reduceMul, Int.reduceNeg, Int.reduceToNat, Int.reduceEq, Int.reduceNe, Int.reduceTDiv, Int.reduceTMod, implies_true, putL, appN, appX, appC, Eng.Fi, reduceCtorEq, exists_eq_left', exists_eq_left, if_true, if_false, List.replicate, Nat.reduceAdd, Nat.reduceSub, Nat.reduceMul, Nat.reduceLeDiff, Nat.reduceLT, Nat.reduceEqDiff]
        have frO := fun φ => free_I φ o
        refine Cor.wk (s2 := S49c vs rs r (k, o)) ?_ ?_
        ·
          cases o with
          | nil =>
            simp only [List.map_cons, List.map_nil, subs, List.cons.injEq] at frO
            exact Wkn.to ⟨0, [(1, 1)], [2], 2, [8, 12, 13, 14, 43, 44, 45]⟩ rfl rfl (by simp [Wk.st, keepT, memN, Wk.fate, Wk.fate0, assoc, getE, Wk.hp, ABlk.sub, sub1, subs, S49c, iA, iH, free_Rq, free_Vi, frO])
            
          | cons x0 r0 =>
            simp only [List.map_cons, List.map_nil, subs, List.cons.injEq] at frO
            exact Wkn.to ⟨0, [(1, 1)], [2], 2, [8, 12, 13, 14, 43, 44, 45]⟩ rfl rfl (by simp [Wk.st, keepT, memN, Wk.fate, Wk.fate0, assoc, getE, Wk.hp, ABlk.sub, sub1, subs, S49c, iA, iH, free_Rq, free_Vi, frO])
            
        · refine Cor.run (addC_good g_ContainsFuncV (addC_good g_requestErr (addC_good g_first (addC_good g_unless (noC_good _))))) (noHx_good _) hm ?_
          cases hb : vs.any fun v => decide (meP v r) with
          | true =>
            rw [hb] at yc hfo
            simp only [if_true] at hfo
            simp +contextual -implicitDefEqProofs (maxSteps := 2000000) only [S49c, yc, eBlk_normal, eThen_normal, ruH, ruB, Int.reduceLT, Int.reduceLE, Int.reduceAdd, Int.reduceSub, Int.reduceMul, Int.reduceNeg, Int.reduceToNat, Int.reduceEq, Int.reduceNe, Int.reduceTDiv, Int.reduceTMod, implies_true, putL, appN, appX, appC, Eng.Fi, reduceCtorEq, exists_eq_left', exists_eq_left, if_true, if_false, List.replicate, Nat.reduceAdd, Nat.reduceSub, Nat.reduceMul, Nat.reduceLeDiff, Nat.reduceLT, Nat.reduceEqDiff]
            refine Cor.run (addC_good g_ContainsFuncV (addC_good g_requestErr (addC_good g_first (addC_good g_unless (noC_good _))))) (noHx_good _) hm ?_
            simp +contextual -implicitDefEqProofs (maxSteps := 2000000) only [q3, eThen_normal, ruH, ruB, Int.reduceLT, Int.reduceLE, Int.reduceAdd, Int.reduceSub, Int.reduceMul, Int.reduceNeg, Int.reduceToNat, Int.reduceEq, Int.reduceNe, Int.reduceTDiv, Int.reduceTMod, implies_true, putL, appN, appX, appC, Eng.Fi, reduceCtorEq, exists_eq_left', exists_eq_left, if_true, if_false, List.replicate, Nat.reduceAdd, Nat.reduceSub, Nat.reduceMul, Nat.reduceLeDiff, Nat.reduceLT, Nat.reduceEqDiff]
            refine ⟨(k + 1, o), ⟨hlt2, hfo⟩, by simp only; omega, ?_⟩
            cases o with
            | nil =>
              simp only [List.map_cons, List.map_nil, subs, List.cons.injEq] at frO
              exact Wkn.to ⟨0, [(1, 1)], [], 2, [8, 12, 43, 44, 45]⟩ rfl rfl (by simp [Wk.st, keepT, memN, Wk.fate, Wk.fate0, assoc, getE, Wk.hp, ABlk.sub, sub1, subs, S49b, iA, iH, free_Rq, free_Vi, frO])
              
            | cons x0 r0 =>
              simp only [List.map_cons, List.map_nil, subs, List.cons.injEq] at frO
              exact Wkn.to ⟨0, [(1, 1)], [], 2, [8, 12, 43, 44, 45]⟩ rfl rfl (by simp [Wk.st, keepT, memN, Wk.fate, Wk.fate0, assoc, getE, Wk.hp, ABlk.sub, sub1, subs, S49b, iA, iH, free_Rq, free_Vi, frO])
              
          | false =>
            rw [hb] at yc hfo
            simp only [Bool.false_eq_true, if_false] at hfo
            have hf2 : umL vs 0 rs = (o ++ [(k : Int)]) ++ umL vs (k + 1) (rs.drop (k + 1)) := by rw [hfo, List.append_assoc]; rfl
            have hol : o.length ≤ 10 := by
              have : ∀ (l : List Rq) (n : Nat), (umL vs n l).length ≤ l.length := by
                intro l
                induction l with
                | nil => intro n; simp [umL]
                | cons r q ih =>
                  intro n
                  rw [umL]
                  have := ih (n + 1)
                  split
                  · rw [List.length_cons]; omega
                  · rw [List.length_cons, List.length_cons]; omega
              have h1 := this rs 0
              rw [hfo] at h1
              simp only [List.length_append] at h1; omega
            have m1 : (o.length + 1 ≤ maxLen) = True := mx (by omega)
            have m2 : ((o.length + 1) * 8 ≤ 140737488355328) = True := by simp only [eq_iff_iff, iff_true]; omega
            cases o with
            | nil =>
              simp only [List.length_nil, List.length_cons, Nat.zero_add] at m1 m2
              simp only [List.map_cons, List.map_nil, subs, List.cons.injEq] at frO
              simp +contextual -implicitDefEqProofs (maxSteps := 2000000) only [S49c, iA, iH, yc, rs_nil, rs_t, rs_f, ag_nils, ag_sl, ag_vs, ag_str, ag_ptr, ag_nilp, ag_vp, ag_fun, m1, m2, List.map_cons, List.length_map, eBlk_normal, eThen_normal, ruH, ruB, Int.reduceLT, Int.reduceLE, Int.reduceAdd, Int.reduceSub, Int.reduceMul, Int.reduceNeg, Int.reduceToNat, Int.reduceEq, Int.reduceNe, Int.reduceTDiv, Int.reduceTMod, implies_true, putL, appN, appX, appC, Eng.Fi, reduceCtorEq, exists_eq_left', exists_eq_left, if_true, if_false, List.replicate, Nat.reduceAdd, Nat.reduceSub, Nat.reduceMul, Nat.reduceLeDiff, Nat.reduceLT, Nat.reduceEqDiff]
              refine Cor.run (addC_good g_ContainsFuncV (addC_good g_requestErr (addC_good g_first (addC_good g_unless (noC_good _))))) (noHx_good _) hm ?_
              simp +contextual -implicitDefEqProofs (maxSteps := 2000000) only [q3, eThen_normal, ruH, ruB, Int.reduceLT, Int.reduceLE, Int.reduceAdd, Int.reduceSub, Int.reduceMul, Int.reduceNeg, Int.reduceToNat, Int.reduceEq, Int.reduceNe, Int.reduceTDiv, Int.reduceTMod, implies_true, putL, appN, appX, appC, Eng.Fi, reduceCtorEq, exists_eq_left', exists_eq_left, if_true, if_false, List.replicate, Nat.reduceAdd, Nat.reduceSub, Nat.reduceMul, Nat.reduceLeDiff, Nat.reduceLT, Nat.reduceEqDiff]
              refine ⟨(k + 1, [] ++ [(k : Int)]), ⟨hlt2, hf2⟩, by simp only; omega, ?_⟩
              exact Wkn.to ⟨0, [(2, 1)], [], 2, [8, 12, 43, 44, 45]⟩ rfl rfl (by simp [Wk.st, keepT, memN, Wk.fate, Wk.fate0, assoc, getE, Wk.hp, ABlk.sub, sub1, subs, S49b, iA, iH, free_Rq, free_Vi, subs_append, frO])
              
            | cons x0 r0 =>
              simp only [List.length_nil, List.length_cons, Nat.zero_add] at m1 m2
              simp only [List.map_cons, List.map_nil, subs, List.cons.injEq] at frO
              simp +contextual -implicitDefEqProofs (maxSteps := 2000000) only [S49c, iA, iH, yc, rs_nil, rs_t, rs_f, ag_nils, ag_sl, ag_vs, ag_str, ag_ptr, ag_nilp, ag_vp, ag_fun, m1, m2, List.map_cons, List.length_map, eBlk_normal, eThen_normal, ruH, ruB, Int.reduceLT, Int.reduceLE, Int.reduceAdd, Int.reduceSub, Int.reduceMul, Int.reduceNeg, Int.reduceToNat, Int.reduceEq, Int.reduceNe, Int.reduceTDiv, Int.reduceTMod, implies_true, putL, appN, appX, appC, Eng.Fi, reduceCtorEq, exists_eq_left', exists_eq_left, if_true, if_false, List.replicate, Nat.reduceAdd, Nat.reduceSub, Nat.reduceMul, Nat.reduceLeDiff, Nat.reduceLT, Nat.reduceEqDiff]
              refine Cor.run (addC_good g_ContainsFuncV (addC_good g_requestErr (addC_good g_first (addC_good g_unless (noC_good _))))) (noHx_good _) hm ?_
              simp +contextual -implicitDefEqProofs (maxSteps := 2000000) only [q3, eThen_normal, ruH, ruB, Int.reduceLT, Int.reduceLE, Int.reduceAdd, Int.reduceSub, Int.reduceMul, Int.reduceNeg, Int.reduceToNat, Int.reduceEq, Int.reduceNe, Int.reduceTDiv, Int.reduceTMod, implies_true, putL, appN, appX, appC, Eng.Fi, reduceCtorEq, exists_eq_left', exists_eq_left, if_true, if_false, List.replicate, Nat.reduceAdd, Nat.reduceSub, Nat.reduceMul, Nat.reduceLeDiff, Nat.reduceLT, Nat.reduceEqDiff]
              refine ⟨(k + 1, (x0 :: r0) ++ [(k : Int)]), ⟨hlt2, hf2⟩, by simp only; omega, ?_⟩
              exact Wkn.to ⟨0, [(2, 1)], [], 2, [8, 12, 43, 44, 45]⟩ rfl rfl (by simp [Wk.st, keepT, memN, Wk.fate, Wk.fate0, assoc, getE, Wk.hp, ABlk.sub, sub1, subs, S49b, iA, iH, free_Rq, free_Vi, subs_append, frO])
              
      · have q1 : decide ((k : Int) < (rs.length : Int)) = false := lt_f hlt2
        rw [List.drop_eq_nil_of_le hlt2, umL, List.append_nil] at hfo
        rw [hfo]
        have frO := fun φ => free_I φ o
        refine Cor.run (addC_good g_ContainsFuncV (addC_good g_requestErr (addC_good g_first (addC_good g_unless (noC_good _))))) (noHx_good _) hm ?_
        cases o with
        | nil =>
          have t2 : ∀ r : List Int, (r.map eI).take r.length = r.map eI := fun r => by rw [List.take_of_length_le]; simp
          simp only [List.map_cons, List.map_nil, subs, List.cons.injEq] at frO
          simp +contextual -implicitDefEqProofs (maxSteps := 2000000) only [S49b, iA, iH, q1, eThen_exit, eBlk_exit, eThen_normal, unw_R, List.map_nil, List.map_cons, List.length_map, t2, Nat.le_refl, frO, ruH, ruB, Int.reduceLT, Int.reduceLE, Int.reduceAdd, Int.reduceSub, Int.reduceMul, Int.reduceNeg, Int.reduceToNat, Int.reduceEq, Int.reduceNe, Int.reduceTDiv, Int.reduceTMod, implies_true, putL, appN, appX, appC, Eng.Fi, reduceCtorEq, exists_eq_left', exists_eq_left, if_true, if_false, List.replicate, Nat.reduceAdd, Nat.reduceSub, Nat.reduceMul, Nat.reduceLeDiff, Nat.reduceLT, Nat.reduceEqDiff]
          
        | cons x0 r0 =>
          have t2 : ∀ r : List Int, (r.map eI).take r.length = r.map eI := fun r => by rw [List.take_of_length_le]; simp
          simp only [List.map_cons, List.map_nil, subs, List.cons.injEq] at frO
          simp +contextual -implicitDefEqProofs (maxSteps := 2000000) only [S49b, iA, iH, q1, eThen_exit, eBlk_exit, eThen_normal, unw_R, List.map_nil, List.map_cons, List.length_map, t2, Nat.le_refl, frO, ruH, ruB, Int.reduceLT, Int.reduceLE, Int.reduceAdd, Int.reduceSub, Int.reduceMul, Int.reduceNeg, Int.reduceToNat, Int.reduceEq, Int.reduceNe, Int.reduceTDiv, Int.reduceTMod, implies_true, putL, appN, appX, appC, Eng.Fi, reduceCtorEq, exists_eq_left', exists_eq_left, if_true, if_false, List.replicate, Nat.reduceAdd, Nat.reduceSub, Nat.reduceMul, Nat.reduceLeDiff, Nat.reduceLT, Nat.reduceEqDiff]
          
    · rw [if_neg hz]
      simp +contextual -implicitDefEqProofs (maxSteps := 2000000) only [S49a, e1, hz, not_false_eq_true, ruH, ruB, Int.reduceLT, Int.reduceLE, Int.reduceAdd, Int.reduceSub, Int.reduceMul, Int.reduceNeg, Int.reduceToNat, Int.reduceEq, Int.reduceNe, Int.reduceTDiv, Int.reduceTMod, implies_true, putL, appN, appX, appC, Eng.Fi, reduceCtorEq, exists_eq_left', exists_eq_left, if_true, if_false, List.replicate, Nat.reduceAdd, Nat.reduceSub, Nat.reduceMul, Nat.reduceLeDiff, Nat.reduceLT, Nat.reduceEqDiff]
noncomputable def cf_UnmetBy : List AV → Option AV
  | [h_v, l_v, .vs rs_v] => onH h_v fun h => onSps l_v fun l => onL dRq rs_v fun rs => if h.res.length ≤ 1099511627776 ∧ rs.length ≤ 1000 then some (umV h l rs) else none
  | _ => none
theorem g_UnmetBy : Fn P 49 cf_UnmetBy := fun args v hh => by
  unfold cf_UnmetBy at hh; split at hh
  · obtain ⟨h, rfl, hh1⟩ := onH_inv hh
    obtain ⟨l, rfl, hh2⟩ := onSps_inv hh1
    obtain ⟨rs, rfl, hh3⟩ := onL_inv dRq_inv hh2
    split at hh3
    · rename_i hc; have hk := Option.some.inj hh3; subst hk; exact k_UnmetBy _ _ _ hc
    · cases hh3
  · cases hh
theorem x_UnmetBy (h : Hd) (l : Sps) (rs : List Rq) (hc : (h.res.length ≤ 1099511627776 ∧ rs.length ≤ 1000) = True) : cf_UnmetBy [eHd h, eVs l, .vs (rs.map eRq)] = some (umV h l rs) := by
  simp only [cf_UnmetBy, onH_e, onL_map dRq_e, onSps_e]
  exact if_pos (by rw [hc]; trivial)
end Sc
