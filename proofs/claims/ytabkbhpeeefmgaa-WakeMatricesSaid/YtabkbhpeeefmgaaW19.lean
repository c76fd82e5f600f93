import Derived.Test.YtabkbhpeeefmgaaEngS9
import Derived.Test.YtabkbhpeeefmgaaW17
import Derived.Test.YtabkbhpeeefmgaaW18
open Go Go.Proofs Eng
set_option maxRecDepth 100000
set_option linter.unusedSimpArgs false
set_option linter.unusedVariables false
def a33 : AC := .seq (.ops false [] [⟨some 2, .p (.mov), [.c (.int .i64 0)], none⟩, ⟨some 3, .p (.mov), [.c (.int .i64 0)], none⟩]) (.seq (.ops false [] [⟨some 10, .p (.mov), [.t 0], none⟩, ⟨some 11, .p (.lenS), [.t 10], none⟩, ⟨some 4, .p (.mov), [.t 11], none⟩]) (.seq (.seq (.ops false [] [⟨some 12, .p (.mov), [.t 4], none⟩, ⟨some 13, .p (.binI .gtr), [.t 12, .c (.int .i64 0)], none⟩, ⟨some 14, .call 91, [.t 13, .c (.int .i64 10)], none⟩, ⟨some 15, .p (.mov), [.t 4], none⟩, ⟨some 16, .p (.binI .leq), [.t 15, .c (.int .i64 6)], none⟩, ⟨some 17, .call 91, [.t 16, .c (.int .i64 8)], none⟩, ⟨some 18, .fbs 1, [.t 14, .t 17], none⟩, ⟨some 19, .call 79, [.t 18], none⟩, ⟨some 5, .p (.mov), [.t 19], none⟩]) (.seq (.ops false [] [⟨some 20, .p (.mov), [.t 5], none⟩, ⟨some 21, .p (.binI .neq), [.t 20, .c (.int .i64 0)], none⟩]) (.cond (.t 21) (.seq (.ops false [] [⟨some 22, .p (.mov), [.t 5], none⟩, ⟨some 2, .p (.mov), [.c (.int .i64 0)], none⟩, ⟨some 3, .p (.mov), [.t 22], none⟩]) (.ret)) (.skip)))) (.seq (.seq (.ops false [] [⟨some 23, .p (.mov), [.t 0], none⟩, ⟨some 24, .p (.lenS), [.t 23], none⟩, ⟨some 25, .p (.mov), [.c (.int .i64 0)], none⟩]) (.block 0 (.loop (.seq (.ops false [] [⟨some 26, .p (.binI .lss), [.t 25, .t 24], none⟩]) (.seq (.cond (.t 26) (.skip) (.exit 0)) (.seq (.block 1 (.seq (.ops false [] [⟨some 27, .p (.mov), [.t 25], none⟩, ⟨some 28, .p (.iaddrS 1), [.t 23, .t 25], none⟩, ⟨some 29, .load 1 false, [.t 28], none⟩, ⟨some 6, .p (.mov), [.t 27], none⟩, ⟨some 7, .p (.mov), [.t 29], none⟩]) (.seq (.ops false [] [⟨some 30, .p (.mov), [.t 7], none⟩, ⟨some 31, .call 101, [.t 30, .c (.fn 102 [] [])], none⟩, ⟨some 8, .p (.mov), [.t 31], none⟩]) (.seq (.ops false [] [⟨some 32, .p (.mov), [.t 7], none⟩, ⟨some 33, .p (.lenS), [.t 32], none⟩, ⟨some 34, .p (.mov), [.t 4], none⟩, ⟨some 35, .p (.binI .eql), [.t 33, .t 34], none⟩, ⟨some 36, .call 91, [.t 35, .c (.int .i64 10)], none⟩, ⟨some 37, .p (.mov), [.t 8], none⟩, ⟨some 38, .p (.notB), [.t 37], none⟩, ⟨some 39, .call 91, [.t 38, .c (.int .i64 2)], none⟩, ⟨some 40, .fbs 1, [.t 36, .t 39], none⟩, ⟨some 41, .call 79, [.t 40], none⟩, ⟨some 9, .p (.mov), [.t 41], none⟩]) (.seq (.ops false [] [⟨some 42, .p (.mov), [.t 9], none⟩, ⟨some 43, .p (.binI .neq), [.t 42, .c (.int .i64 0)], none⟩]) (.cond (.t 43) (.seq (.ops false [] [⟨some 44, .p (.mov), [.t 6], none⟩, ⟨some 45, .p (.mov), [.t 9], none⟩, ⟨some 2, .p (.mov), [.t 44], none⟩, ⟨some 3, .p (.mov), [.t 45], none⟩]) (.ret)) (.skip))))))) (.ops false [] [⟨some 46, .p (.binI .add), [.t 25, .c (.int .i64 1)], none⟩, ⟨some 25, .p (.mov), [.t 46], none⟩]))))))) (.seq (.ops false [] [⟨some 2, .p (.mov), [.c (.int .i64 0)], none⟩, ⟨some 3, .p (.mov), [.c (.int .i64 0)], none⟩]) (.ret)))))
theorem c33 : FnC Try.prog 33 47 a33 [.tmp 2, .tmp 3] := ⟨Try.call33, _, _, Try.func33, rfl, by kernel_rfl, by kernel_rfl, rfl⟩
def a101 : AC := .seq (.ops false [] [⟨some 4, .p (.mov), [.c (.bool false)], none⟩]) (.seq (.ops false [] [⟨some 5, .p (.mov), [.t 0], none⟩, ⟨some 6, .p (.mov), [.t 1], none⟩, ⟨some 7, .call 137, [.t 5, .t 6], none⟩, ⟨some 8, .p (.binI .geq), [.t 7, .c (.int .i64 0)], none⟩, ⟨some 4, .p (.mov), [.t 8], none⟩]) (.ret))
theorem c101 : FnC Try.prog 101 9 a101 [.tmp 4] := ⟨Try.call101, _, _, Try.func101, rfl, by kernel_rfl, by kernel_rfl, rfl⟩
def a102 : AC := .seq (.ops false [] [⟨some 2, .p (.mov), [.c (.bool false)], none⟩]) (.seq (.ops false [] [⟨some 3, .p (.mov), [.t 0], none⟩, ⟨some 4, .call 103, [.t 3, .c (.int .i64 0), .c (.int .i64 10000000)], none⟩, ⟨some 5, .p (.notB), [.t 4], none⟩, ⟨some 2, .p (.mov), [.t 5], none⟩]) (.ret))
theorem c102 : FnC Try.prog 102 6 a102 [.tmp 2] := ⟨Try.call102, _, _, Try.func102, rfl, by kernel_rfl, by kernel_rfl, rfl⟩
def a105 : AC := .seq (.ops false [] [⟨some 2, .p (.mov), [.c (.nilslice)], none⟩, ⟨some 3, .p (.mov), [.c (.int .i64 0)], none⟩]) (.seq (.ops false [] [⟨some 7, .p (.mov), [.t 0], none⟩, ⟨some 8, .call 33, [.t 7], none⟩, ⟨some 6, .p (.mov), [.t 8], none⟩, ⟨some 9, .p (.ext 0), [.t 6], none⟩, ⟨some 10, .p (.ext 1), [.t 6], none⟩, ⟨some 4, .p (.mov), [.t 9], none⟩, ⟨some 5, .p (.mov), [.t 10], none⟩]) (.seq (.ops false [] [⟨some 11, .p (.mov), [.t 0], none⟩, ⟨some 12, .p (.mov), [.t 5], none⟩, ⟨some 2, .p (.mov), [.t 11], none⟩, ⟨some 3, .p (.mov), [.t 12], none⟩]) (.ret)))
theorem c105 : FnC Try.prog 105 13 a105 [.tmp 2, .tmp 3] := ⟨Try.call105, _, _, Try.func105, rfl, by kernel_rfl, by kernel_rfl, rfl⟩
def a137 : AC := .seq (.ops false [] [⟨some 4, .p (.mov), [.c (.int .i64 0)], none⟩]) (.seq (.seq (.ops false [] [⟨some 6, .p (.mov), [.t 0], none⟩, ⟨some 7, .p (.lenS), [.t 6], none⟩, ⟨some 8, .p (.mov), [.c (.int .i64 0)], none⟩]) (.block 0 (.loop (.seq (.ops false [] [⟨some 9, .p (.binI .lss), [.t 8, .t 7], none⟩]) (.seq (.cond (.t 9) (.skip) (.exit 0)) (.seq (.block 1 (.seq (.ops false [] [⟨some 10, .p (.mov), [.t 8], none⟩, ⟨some 5, .p (.mov), [.t 10], none⟩]) (.seq (.ops false [] [⟨some 11, .p (.mov), [.t 1], none⟩, ⟨some 12, .p (.mov), [.t 0], none⟩, ⟨some 13, .p (.mov), [.t 5], none⟩, ⟨some 14, .p (.iaddrS 1), [.t 12, .t 13], none⟩, ⟨some 15, .load 1 false, [.t 14], none⟩, ⟨some 16, .callv, [.t 11, .t 15], none⟩]) (.cond (.t 16) (.seq (.ops false [] [⟨some 17, .p (.mov), [.t 5], none⟩, ⟨some 4, .p (.mov), [.t 17], none⟩]) (.ret)) (.skip))))) (.ops false [] [⟨some 18, .p (.binI .add), [.t 8, .c (.int .i64 1)], none⟩, ⟨some 8, .p (.mov), [.t 18], none⟩]))))))) (.seq (.ops false [] [⟨some 4, .p (.mov), [.c (.int .i64 (-1))], none⟩]) (.ret)))
theorem c137 : FnC Try.prog 137 19 a137 [.tmp 4] := ⟨Try.call137, _, _, Try.func137, rfl, by kernel_rfl, by kernel_rfl, rfl⟩
namespace Wa
abbrev L := List Int
abbrev eL (l : L) : AV := .vs (l.map eI)
def dL : AV → Option L
  | .vs us => decL decI us
  | _ => none
theorem dL_e (l : L) : dL (eL l) = some l := decL_map decI eI decI_I l
theorem dL_inv (v : AV) (l : L) (h : dL v = some l) : v = eL l := by
  unfold dL at h
  split at h
  · rw [decL_inv decI eI (fun v x => decI_inv) h]
  · cases h
theorem eL_inj (a b : L) (h : eL a = eL b) : a = b := map_inj (e := eI) (fun a b hab => by simpa using hab) _ _ (AV.vs.inj h)
theorem free_L1 (φ : Nat → Fate) (l : L) : sub1 φ (eL l) = eL l := by simp only [sub1, free_I]
theorem free_L (φ : Nat → Fate) (m : List L) : subs φ (m.map eL) = m.map eL := subs_mapE φ _ (free_L1 φ) m
def badN (x : Int) : Prop := ¬ (0 ≤ x ∧ x ≤ 10000000)
instance (x : Int) : Decidable (badN x) := by unfold badN; infer_instance
def badP (l : L) : Prop := ∃ x ∈ l, badN x
instance (l : L) : Decidable (badP l) := by unfold badP; infer_instance
theorem k_CheckMatrix1 (x : Int) : FOk P 102 [I x] (.bool (decide (badN x))) := by
  refine c102.fok rfl (Cor.run (addC_good g_within (noC_good _)) (noHx_good _) hm ?_)
  simp +contextual -implicitDefEqProofs (maxSteps := 2000000) only [bg_eq, a102, x_within, badN, ruB, rh_no, Int.reduceLT, Int.reduceLE, Int.reduceAdd, Int.reduceSub, Int.reduceMul, Int.reduceNeg, Int.reduceToNat, Int.reduceEq, Int.reduceNe, Int.reduceTDiv, Int.reduceTMod, implies_true, putL, appN, appX, appC, Eng.Fi, reduceCtorEq, exists_eq_left', exists_eq_left, if_true, if_false, List.replicate, Nat.reduceAdd, Nat.reduceSub, Nat.reduceMul, Nat.reduceLeDiff, Nat.reduceLT, Nat.reduceEqDiff]
def cf_CheckMatrix1 : List AV → Option AV
  | [.int .i64 x] => some (.bool (decide (badN x)))
  | _ => none
theorem g_CheckMatrix1 : Fn P 102 cf_CheckMatrix1 := fun args v h => by
  unfold cf_CheckMatrix1 at h; split at h
  · have h := Option.some.inj h; subst h; exact k_CheckMatrix1 _
  · cases h
theorem x_CheckMatrix1 (x : Int) : cf_CheckMatrix1 [.int .i64 x] = some (.bool (decide (badN x))) := rfl
def ifG : Nat → L → Int
  | _, [] => -1
  | n, y :: r => if badN y then n else ifG (n + 1) r
theorem ifG_bad : ∀ (l : L) (n : Nat), decide (0 ≤ ifG n l) = decide (badP l)
  | [], n => by simp [ifG, badP]
  | y :: r, n => by
    rw [ifG]
    split
    · rename_i h
      have : badP (y :: r) := ⟨y, by simp, h⟩
      simp [this]
    · rename_i h
      rw [ifG_bad r (n + 1)]
      exact decide_eq_decide.2 ⟨fun ⟨x, hx, hb⟩ => ⟨x, by simp [hx], hb⟩, fun ⟨x, hx, hb⟩ => by
        rcases List.mem_cons.1 hx with rfl | hx
        · exact absurd hb h
        · exact ⟨x, hx, hb⟩⟩
def S_ifI (l : L) (n : Nat) : AState := ⟨[.vs (l.map eI), .fn 102 [] [], .any, .any, .any, .any, .vs (l.map eI), I l.length, I n, .any, .any, .any, .any, .any, .any, .any, .any, .any, .any], [], 0⟩
theorem k_IndexFuncI (l : L) (hl : l.length ≤ 1099511627776) : FOk P 137 [.vs (l.map eI), .fn 102 [] []] (I (ifG 0 l)) := by
  refine c137.fok (by simp only [subs, sub1, free_I]) (Cor.run (addC_good g_CheckMatrix1 (noC_good _)) (noHx_good _) hm ?_)
  simp +contextual -implicitDefEqProofs (maxSteps := 2000000) only [bg_eq, a137, List.length_map, ruB, rh_no, Int.reduceLT, Int.reduceLE, Int.reduceAdd, Int.reduceSub, Int.reduceMul, Int.reduceNeg, Int.reduceToNat, Int.reduceEq, Int.reduceNe, Int.reduceTDiv, Int.reduceTMod, implies_true, putL, appN, appX, appC, Eng.Fi, reduceCtorEq, exists_eq_left', exists_eq_left, if_true, if_false, List.replicate, Nat.reduceAdd, Nat.reduceSub, Nat.reduceMul, Nat.reduceLeDiff, Nat.reduceLT, Nat.reduceEqDiff]
  refine Cor.lp (addC_good g_CheckMatrix1 (noC_good _)) (noHx_good _) hm (S_ifI l) (fun n => n ≤ l.length ∧ ifG 0 l = ifG n (l.drop n)) (fun n => l.length - n) (a := 0) ⟨Nat.zero_le _, rfl⟩ (Wkn.keep [0, 1, 6, 7, 8] rfl) ?_
  intro f n ⟨hn, hf⟩ go
  rcases Nat.lt_or_ge n l.length with h | h
  · have e1 : decide ((n : Int) < (l.length : Int)) = true := lt_t h
    have e2 : (l.map eI)[n]? = some (eI l[n]) := get_e eI l h
    have e3 : IntKind.wrap .i64 ((n : Int) + 1) = ((n + 1 : Nat) : Int) := suc_w (by omega)
    have y := x_CheckMatrix1 l[n]
    rw [List.drop_eq_getElem_cons h, ifG] at hf
    by_cases hc : badN l[n]
    · rw [if_pos hc] at hf
      simp +contextual -implicitDefEqProofs (maxSteps := 2000000) only [S_ifI, e1, e2, e3, y, hc, ruB, rh_no, Int.reduceLT, Int.reduceLE, Int.reduceAdd, Int.reduceSub, Int.reduceMul, Int.reduceNeg, Int.reduceToNat, Int.reduceEq, Int.reduceNe, Int.reduceTDiv, Int.reduceTMod, implies_true, putL, appN, appX, appC, Eng.Fi, reduceCtorEq, exists_eq_left', exists_eq_left, if_true, if_false, List.replicate, Nat.reduceAdd, Nat.reduceSub, Nat.reduceMul, Nat.reduceLeDiff, Nat.reduceLT, Nat.reduceEqDiff]
      rw [hf]
    · rw [if_neg hc] at hf
      simp +contextual -implicitDefEqProofs (maxSteps := 2000000) only [S_ifI, e1, e2, e3, y, hc, ruB, rh_no, Int.reduceLT, Int.reduceLE, Int.reduceAdd, Int.reduceSub, Int.reduceMul, Int.reduceNeg, Int.reduceToNat, Int.reduceEq, Int.reduceNe, Int.reduceTDiv, Int.reduceTMod, implies_true, putL, appN, appX, appC, Eng.Fi, reduceCtorEq, exists_eq_left', exists_eq_left, if_true, if_false, List.replicate, Nat.reduceAdd, Nat.reduceSub, Nat.reduceMul, Nat.reduceLeDiff, Nat.reduceLT, Nat.reduceEqDiff]
      exact go _ (n + 1) ⟨h, hf⟩ (by omega) (Wkn.keep [0, 1, 6, 7, 8] rfl)
  · have e1 : decide ((n : Int) < (l.length : Int)) = false := lt_f h
    rw [List.drop_eq_nil_of_le h] at hf
    simp +contextual -implicitDefEqProofs (maxSteps := 2000000) only [S_ifI, e1, ruB, rh_no, Int.reduceLT, Int.reduceLE, Int.reduceAdd, Int.reduceSub, Int.reduceMul, Int.reduceNeg, Int.reduceToNat, Int.reduceEq, Int.reduceNe, Int.reduceTDiv, Int.reduceTMod, implies_true, putL, appN, appX, appC, Eng.Fi, reduceCtorEq, exists_eq_left', exists_eq_left, if_true, if_false, List.replicate, Nat.reduceAdd, Nat.reduceSub, Nat.reduceMul, Nat.reduceLeDiff, Nat.reduceLT, Nat.reduceEqDiff]
    rw [hf]; rfl
def cf_IndexFuncI : List AV → Option AV
  | [.vs l_v, .fn 102 [] []] => onL dI l_v fun l => if l.length ≤ 1099511627776 then some (I (ifG 0 l)) else none
  | _ => none
theorem g_IndexFuncI : Fn P 137 cf_IndexFuncI := fun args v hh => by
  unfold cf_IndexFuncI at hh; split at hh
  · obtain ⟨l, rfl, hh1⟩ := onL_inv dI_inv hh
    split at hh1
    · rename_i hc; have hk := Option.some.inj hh1; subst hk; exact k_IndexFuncI _ hc
    · cases hh1
  · cases hh
theorem x_IndexFuncI (l : List Int) (hc : (l.length ≤ 1099511627776) = True) : cf_IndexFuncI [.vs (l.map eI), .fn 102 [] []] = some (I (ifG 0 l)) := by
  simp only [cf_IndexFuncI, onL_map dI_e]
  exact if_pos (by rw [hc]; trivial)
theorem k_ContainsFuncI (l : L) (hl : l.length ≤ 1099511627776) : FOk P 101 [.vs (l.map eI), .fn 102 [] []] (.bool (decide (badP l))) := by
  have y := x_IndexFuncI l (by simp only [hl])
  rw [← ifG_bad l 0]
  refine c101.fok (by simp only [subs, sub1, free_I]) (Cor.run (addC_good g_IndexFuncI (noC_good _)) (noHx_good _) hm ?_)
  simp +contextual -implicitDefEqProofs (maxSteps := 2000000) only [bg_eq, a101, y, ruB, rh_no, Int.reduceLT, Int.reduceLE, Int.reduceAdd, Int.reduceSub, Int.reduceMul, Int.reduceNeg, Int.reduceToNat, Int.reduceEq, Int.reduceNe, Int.reduceTDiv, Int.reduceTMod, implies_true, putL, appN, appX, appC, Eng.Fi, reduceCtorEq, exists_eq_left', exists_eq_left, if_true, if_false, List.replicate, Nat.reduceAdd, Nat.reduceSub, Nat.reduceMul, Nat.reduceLeDiff, Nat.reduceLT, Nat.reduceEqDiff]
def cf_ContainsFuncI : List AV → Option AV
  | [.vs l_v, .fn 102 [] []] => onL dI l_v fun l => if l.length ≤ 1099511627776 then some (.bool (decide (badP l))) else none
  | _ => none
theorem g_ContainsFuncI : Fn P 101 cf_ContainsFuncI := fun args v hh => by
  unfold cf_ContainsFuncI at hh; split at hh
  · obtain ⟨l, rfl, hh1⟩ := onL_inv dI_inv hh
    split at hh1
    · rename_i hc; have hk := Option.some.inj hh1; subst hk; exact k_ContainsFuncI _ hc
    · cases hh1
  · cases hh
theorem x_ContainsFuncI (l : List Int) (hc : (l.length ≤ 1099511627776) = True) : cf_ContainsFuncI [.vs (l.map eI), .fn 102 [] []] = some (.bool (decide (badP l))) := by
  simp only [cf_ContainsFuncI, onL_map dI_e]
  exact if_pos (by rw [hc]; trivial)
def roE (n : Nat) (r : L) : Int := firstE [unl ((r.length : Int) = (n : Int)) 10, unl (¬ badP r) 2]
def cmG (n : Nat) : Nat → List L → Int × Int
  | _, [] => (0, 0)
  | i, r :: rs => if roE n r = 0 then cmG n (i + 1) rs else ((i : Int), roE n r)
def cmE (m : List L) : Int := firstE [unl (0 < (m.length : Int)) 10, unl ((m.length : Int) ≤ 6) 8]
def cmV (m : List L) : Int × Int := if cmE m = 0 then cmG m.length 0 m else (0, cmE m)
def S_cm (m : List L) (k : Nat) : AState := ⟨[.any, .any, .any, .any, I m.length, .any, .any, .any, .any, .any, .any, .any, .any, .any, .any, .any, .any, .any, .any, .any, .any, .any, .any, .vs (m.map eL), I m.length, I k, .any, .any, .any, .any, .any, .any, .any, .any, .any, .any, .any, .any, .any, .any, .any, .any, .any, .any, .any, .any, .any], [], 0⟩
theorem k_CheckMatrix (m : List L) (hm' : m.length ≤ 1099511627776 ∧ ∀ r ∈ m, r.length ≤ 1099511627776) : FOk P 33 [.vs (m.map eL)] (.tup [I (cmV m).1, I (cmV m).2]) := by
  obtain ⟨hl, hr⟩ := hm'
  by_cases h0 : cmE m = 0
  · rw [cmV, if_pos h0]
    unfold cmE at h0
    refine c33.fok (by simp only [subs, sub1, free_L]) (Cor.run (addC_good g_ContainsFuncI (addC_good g_first (addC_good g_unless (noC_good _)))) (noHx_good _) hm ?_)
    simp +contextual -implicitDefEqProofs (maxSteps := 2000000) only [bg_eq, a33, List.length_map, x_unless, x_first, y_first, h0, not_true_eq_false, ruB, rh_no, Int.reduceLT, Int.reduceLE, Int.reduceAdd, Int.reduceSub, Int.reduceMul, Int.reduceNeg, Int.reduceToNat, Int.reduceEq, Int.reduceNe, Int.reduceTDiv, Int.reduceTMod, implies_true, putL, appN, appX, appC, Eng.Fi, reduceCtorEq, exists_eq_left', exists_eq_left, if_true, if_false, List.replicate, Nat.reduceAdd, Nat.reduceSub, Nat.reduceMul, Nat.reduceLeDiff, Nat.reduceLT, Nat.reduceEqDiff]
    refine Cor.lp (addC_good g_ContainsFuncI (addC_good g_first (addC_good g_unless (noC_good _)))) (noHx_good _) hm (S_cm m) (fun k => k ≤ m.length ∧ cmG m.length 0 m = cmG m.length k (m.drop k)) (fun k => m.length - k) (a := 0) ⟨Nat.zero_le _, rfl⟩ (Wkn.keep [4, 23, 24, 25] rfl) ?_
    intro f k ⟨hk, hf⟩ go
    rcases Nat.lt_or_ge k m.length with h | h
    · have e1 : decide ((k : Int) < (m.length : Int)) = true := lt_t h
      have e2 : (m.map eL)[k]? = some (eL m[k]) := get_e eL m h
      have e3 : IntKind.wrap .i64 ((k : Int) + 1) = ((k + 1 : Nat) : Int) := suc_w (by omega)
      have hrk := hr m[k] (by simp)
      rw [List.drop_eq_getElem_cons h, cmG] at hf
      generalize m[k] = r at *
      have y := x_ContainsFuncI r (by simp only [hrk])
      by_cases c1 : roE m.length r = 0
      · rw [if_pos c1] at hf
        unfold roE at c1
        simp +contextual -implicitDefEqProofs (maxSteps := 2000000) only [S_cm, e1, e2, e3, y, x_unless, x_first, y_first, List.length_map, c1, not_true_eq_false, ruB, rh_no, Int.reduceLT, Int.reduceLE, Int.reduceAdd, Int.reduceSub, Int.reduceMul, Int.reduceNeg, Int.reduceToNat, Int.reduceEq, Int.reduceNe, Int.reduceTDiv, Int.reduceTMod, implies_true, putL, appN, appX, appC, Eng.Fi, reduceCtorEq, exists_eq_left', exists_eq_left, if_true, if_false, List.replicate, Nat.reduceAdd, Nat.reduceSub, Nat.reduceMul, Nat.reduceLeDiff, Nat.reduceLT, Nat.reduceEqDiff]
        exact go _ (k + 1) ⟨h, hf⟩ (by omega) (Wkn.keep [4, 23, 24, 25] rfl)
      · rw [if_neg c1] at hf
        rw [hf]
        unfold roE at c1 ⊢
        simp +contextual -implicitDefEqProofs (maxSteps := 2000000) only [S_cm, e1, e2, e3, y, x_unless, x_first, y_first, List.length_map, c1, not_false_eq_true, ruB, rh_no, Int.reduceLT, Int.reduceLE, Int.reduceAdd, Int.reduceSub, Int.reduceMul, Int.reduceNeg, Int.reduceToNat, Int.reduceEq, Int.reduceNe, Int.reduceTDiv, Int.reduceTMod, implies_true, putL, appN, appX, appC, Eng.Fi, reduceCtorEq, exists_eq_left', exists_eq_left, if_true, if_false, List.replicate, Nat.reduceAdd, Nat.reduceSub, Nat.reduceMul, Nat.reduceLeDiff, Nat.reduceLT, Nat.reduceEqDiff]
    · have e1 : decide ((k : Int) < (m.length : Int)) = false := lt_f h
      rw [List.drop_eq_nil_of_le h, cmG] at hf
      rw [hf]
      simp +contextual -implicitDefEqProofs (maxSteps := 2000000) only [S_cm, e1, ruB, rh_no, Int.reduceLT, Int.reduceLE, Int.reduceAdd, Int.reduceSub, Int.reduceMul, Int.reduceNeg, Int.reduceToNat, Int.reduceEq, Int.reduceNe, Int.reduceTDiv, Int.reduceTMod, implies_true, putL, appN, appX, appC, Eng.Fi, reduceCtorEq, exists_eq_left', exists_eq_left, if_true, if_false, List.replicate, Nat.reduceAdd, Nat.reduceSub, Nat.reduceMul, Nat.reduceLeDiff, Nat.reduceLT, Nat.reduceEqDiff]
  · rw [cmV, if_neg h0]
    unfold cmE at h0 ⊢
    refine c33.fok (by simp only [subs, sub1, free_L]) (Cor.run (addC_good g_ContainsFuncI (addC_good g_first (addC_good g_unless (noC_good _)))) (noHx_good _) hm ?_)
    simp +contextual -implicitDefEqProofs (maxSteps := 2000000) only [bg_eq, a33, List.length_map, x_unless, x_first, y_first, h0, not_false_eq_true, ruB, rh_no, Int.reduceLT, Int.reduceLE, Int.reduceAdd, Int.reduceSub, Int.reduceMul, Int.reduceNeg, Int.reduceToNat, Int.reduceEq, Int.reduceNe, Int.reduceTDiv, Int.reduceTMod, implies_true, putL, appN, appX, appC, Eng.Fi, reduceCtorEq, exists_eq_left', exists_eq_left, if_true, if_false, List.replicate, Nat.reduceAdd, Nat.reduceSub, Nat.reduceMul, Nat.reduceLeDiff, Nat.reduceLT, Nat.reduceEqDiff]
def cf_CheckMatrix : List AV → Option AV
  | [.vs m_v] => onL dL m_v fun m => if m.length ≤ 1099511627776 ∧ ∀ r ∈ m, r.length ≤ 1099511627776 then some (.tup [I (cmV m).1, I (cmV m).2]) else none
  | _ => none
theorem g_CheckMatrix : Fn P 33 cf_CheckMatrix := fun args v hh => by
  unfold cf_CheckMatrix at hh; split at hh
  · obtain ⟨m, rfl, hh1⟩ := onL_inv dL_inv hh
    split at hh1
    · rename_i hc; have hk := Option.some.inj hh1; subst hk; exact k_CheckMatrix _ hc
    · cases hh1
  · cases hh
theorem x_CheckMatrix (m : List L) (hc : (m.length ≤ 1099511627776 ∧ ∀ r ∈ m, r.length ≤ 1099511627776) = True) : cf_CheckMatrix [.vs (m.map eL)] = some (.tup [I (cmV m).1, I (cmV m).2]) := by
  simp only [cf_CheckMatrix, onL_map dL_e]
  exact if_pos (by rw [hc]; trivial)
theorem k_open (m : List L) (h : m.length ≤ 1099511627776 ∧ ∀ r ∈ m, r.length ≤ 1099511627776) : FOk P 105 [.vs (m.map eL)] (.tup [.vs (m.map eL), I (cmV m).2]) := by
  have y := x_CheckMatrix m (by simp only [eq_iff_iff, iff_true]; exact h)
  refine c105.fok (by simp only [subs, sub1, free_L]) (Cor.run (addC_good g_CheckMatrix (noC_good _)) (noHx_good _) hm ?_)
  simp +contextual -implicitDefEqProofs (maxSteps := 2000000) only [bg_eq, a105, y, free_L, ruB, rh_no, Int.reduceLT, Int.reduceLE, Int.reduceAdd, Int.reduceSub, Int.reduceMul, Int.reduceNeg, Int.reduceToNat, Int.reduceEq, Int.reduceNe, Int.reduceTDiv, Int.reduceTMod, implies_true, putL, appN, appX, appC, Eng.Fi, reduceCtorEq, exists_eq_left', exists_eq_left, if_true, if_false, List.replicate, Nat.reduceAdd, Nat.reduceSub, Nat.reduceMul, Nat.reduceLeDiff, Nat.reduceLT, Nat.reduceEqDiff]
def cf_open : List AV → Option AV
  | [.vs m_v] => onL dL m_v fun m => if m.length ≤ 1099511627776 ∧ ∀ r ∈ m, r.length ≤ 1099511627776 then some (.tup [.vs (m.map eL), I (cmV m).2]) else none
  | _ => none
theorem g_open : Fn P 105 cf_open := fun args v hh => by
  unfold cf_open at hh; split at hh
  · obtain ⟨m, rfl, hh1⟩ := onL_inv dL_inv hh
    split at hh1
    · rename_i hc; have hk := Option.some.inj hh1; subst hk; exact k_open _ hc
    · cases hh1
  · cases hh
theorem x_open (m : List L) (hc : (m.length ≤ 1099511627776 ∧ ∀ r ∈ m, r.length ≤ 1099511627776) = True) : cf_open [.vs (m.map eL)] = some (.tup [.vs (m.map eL), I (cmV m).2]) := by
  simp only [cf_open, onL_map dL_e]
  exact if_pos (by rw [hc]; trivial)
/-- a matrix without an error -/
structure maR (m : List L) : Prop where
  n : 0 < m.length ∧ m.length ≤ 6
  r : ∀ r ∈ m, r.length = m.length ∧ ∀ x ∈ r, 0 ≤ x ∧ x ≤ 10000000
theorem roE_z {n : Nat} {r : L} (h : roE n r = 0) : r.length = n ∧ ∀ x ∈ r, 0 ≤ x ∧ x ≤ 10000000 := by
  have z := firstE_zero h
  have a1 := unl_zero (z (unl ((r.length : Int) = (n : Int)) 10) (by simp)) (by decide)
  have a2 := unl_zero (z (unl (¬ badP r) 2) (by simp)) (by decide)
  refine ⟨by omega, fun x hx => Decidable.byContradiction fun hb => a2 ⟨x, hx, hb⟩⟩
theorem cmG_z {n : Nat} : ∀ {l : List L} {i : Nat}, (cmG n i l).2 = 0 → ∀ r ∈ l, r.length = n ∧ ∀ x ∈ r, 0 ≤ x ∧ x ≤ 10000000
  | [], _, _, r, h => by simp at h
  | y :: l, i, h, r, hr => by
    rw [cmG] at h
    split at h
    · rename_i hy
      rcases List.mem_cons.1 hr with rfl | hr
      · exact roE_z hy
      · exact cmG_z h r hr
    · rename_i hy; exact absurd h hy
theorem cmV_z {m : List L} (h : (cmV m).2 = 0) : maR m := by
  unfold cmV at h
  split at h
  · rename_i h0
    have z := firstE_zero h0
    have a1 := unl_zero (z (unl (0 < (m.length : Int)) 10) (by simp)) (by decide)
    have a2 := unl_zero (z (unl ((m.length : Int) ≤ 6) 8) (by simp)) (by decide)
    exact ⟨by omega, cmG_z h⟩
  · rename_i h0; exact absurd h h0
theorem roE_of {n : Nat} {r : L} (h : r.length = n ∧ ∀ x ∈ r, 0 ≤ x ∧ x ≤ 10000000) : roE n r = 0 := by
  refine firstE_all fun e he => ?_
  simp only [List.mem_cons, List.not_mem_nil, or_false] at he
  rcases he with rfl | rfl
  · exact unl_t _ (by omega)
  · exact unl_t _ fun ⟨x, hx, hb⟩ => hb (h.2 x hx)
theorem cmG_of {n : Nat} : ∀ {l : List L} {i : Nat}, (∀ r ∈ l, r.length = n ∧ ∀ x ∈ r, 0 ≤ x ∧ x ≤ 10000000) → cmG n i l = (0, 0)
  | [], _, _ => rfl
  | y :: l, i, h => by
    rw [cmG, if_pos (roE_of (h y (by simp)))]
    exact cmG_of fun r hr => h r (by simp [hr])
theorem cmV_of {m : List L} (h : maR m) : cmV m = (0, 0) := by
  have h0 : cmE m = 0 := by
    have := h.n
    refine firstE_all fun e he => ?_
    simp only [List.mem_cons, List.not_mem_nil, or_false] at he
    rcases he with rfl | rfl
    · exact unl_t _ (by omega)
    · exact unl_t _ (by omega)
  rw [cmV, if_pos h0]
  exact cmG_of h.r
end Wa
