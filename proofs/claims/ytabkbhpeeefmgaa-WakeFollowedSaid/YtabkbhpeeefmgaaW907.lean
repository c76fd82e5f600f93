import Derived.Test.YtabkbhpeeefmgaaEngS9
import Derived.Test.YtabkbhpeeefmgaaW906
open Go Go.Proofs Eng
set_option maxRecDepth 100000
set_option linter.unusedSimpArgs false
set_option linter.unusedVariables false
def a33 : AC := .seq (.ops false [] [⟨some 2, .p (.mov), [.c (.int .i64 0)], none⟩, ⟨some 3, .p (.mov), [.c (.int .i64 0)], none⟩]) (.seq (.ops false [] [⟨some 10, .p (.mov), [.t 0], none⟩, ⟨some 11, .p (.lenS), [.t 10], none⟩, ⟨some 4, .p (.mov), [.t 11], none⟩]) (.seq (.seq (.ops false [] [⟨some 12, .p (.mov), [.t 4], none⟩, ⟨some 13, .p (.binI .gtr), [.t 12, .c (.int .i64 0)], none⟩, ⟨some 14, .call 91, [.t 13, .c (.int .i64 10)], none⟩, ⟨some 15, .p (.mov), [.t 4], none⟩, ⟨some 16, .p (.binI .leq), [.t 15, .c (.int .i64 6)], none⟩, ⟨some 17, .call 91, [.t 16, .c (.int .i64 8)], none⟩, ⟨some 18, .fbs 1, [.t 14, .t 17], none⟩, ⟨some 19, .call 79, [.t 18], none⟩, ⟨some 5, .p (.mov), [.t 19], none⟩]) (.seq (.ops false [] [⟨some 20, .p (.mov), [.t 5], none⟩, ⟨some 21, .p (.binI .neq), [.t 20, .c (.int .i64 0)], none⟩]) (.cond (.t 21) (.seq (.ops false [] [⟨some 22, .p (.mov), [.t 5], none⟩, ⟨some 2, .p (.mov), [.c (.int .i64 0)], none⟩, ⟨some 3, .p (.mov), [.t 22], none⟩]) (.ret)) (.skip)))) (.seq (.seq (.ops false [] [⟨some 23, .p (.mov), [.t 0], none⟩, ⟨some 24, .p (.lenS), [.t 23], none⟩, ⟨some 25, .p (.mov), [.c (.int .i64 0)], none⟩]) (.block 0 (.loop (.seq (.ops false [] [⟨some 26, .p (.binI .lss), [.t 25, .t 24], none⟩]) (.seq (.cond (.t 26) (.skip) (.exit 0)) (.seq (.block 1 (.seq (.ops false [] [⟨some 27, .p (.mov), [.t 25], none⟩, ⟨some 28, .p (.iaddrS 1), [.t 23, .t 25], none⟩, ⟨some 29, .load 1 false, [.t 28], none⟩, ⟨some 6, .p (.mov), [.t 27], none⟩, ⟨some 7, .p (.mov), [.t 29], none⟩]) (.seq (.ops false [] [⟨some 30, .p (.mov), [.t 7], none⟩, ⟨some 31, .call 101, [.t 30, .c (.fn 102 [] [])], none⟩, ⟨some 8, .p (.mov), [.t 31], none⟩]) (.seq (.ops false [] [⟨some 32, .p (.mov), [.t 7], none⟩, ⟨some 33, .p (.lenS), [.t 32], none⟩, ⟨some 34, .p (.mov), [.t 4], none⟩, ⟨some 35, .p (.binI .eql), [.t 33, .t 34], none⟩, ⟨some 36, .call 91, [.t 35, .c (.int .i64 10)], none⟩, ⟨some 37, .p (.mov), [.t 8], none⟩, ⟨some 38, .p (.notB), [.t 37], none⟩, ⟨some 39, .call 91, [.t 38, .c (.int .i64 2)], none⟩, ⟨some 40, .fbs 1, [.t 36, .t 39], none⟩, ⟨some 41, .call 79, [.t 40], none⟩, ⟨some 9, .p (.mov), [.t 41], none⟩]) (.seq (.ops false [] [⟨some 42, .p (.mov), [.t 9], none⟩, ⟨some 43, .p (.binI .neq), [.t 42, .c (.int .i64 0)], none⟩]) (.cond (.t 43) (.seq (.ops false [] [⟨some 44, .p (.mov), [.t 6], none⟩, ⟨some 45, .p (.mov), [.t 9], none⟩, ⟨some 2, .p (.mov), [.t 44], none⟩, ⟨some 3, .p (.mov), [.t 45], none⟩]) (.ret)) (.skip))))))) (.ops false [] [⟨some 46, .p (.binI .add), [.t 25, .c (.int .i64 1)], none⟩, ⟨some 25, .p (.mov), [.t 46], none⟩]))))))) (.seq (.ops false [] [⟨some 2, .p (.mov), [.c (.int .i64 0)], none⟩, ⟨some 3, .p (.mov), [.c (.int .i64 0)], none⟩]) (.ret)))))
theorem c33 : FnC Try.prog 33 47 a33 [.tmp 2, .tmp 3] := ⟨Try.call33, _, _, Try.func33, rfl, by kernel_rfl, by kernel_rfl, rfl⟩
def a101 : AC := .seq (.ops false [] [⟨some 4, .p (.mov), [.c (.bool false)], none⟩]) (.seq (.ops false [] [⟨some 5, .p (.mov), [.t 0], none⟩, ⟨some 6, .p (.mov), [.t 1], none⟩, ⟨some 7, .call 137, [.t 5, .t 6], none⟩, ⟨some 8, .p (.binI .geq), [.t 7, .c (.int .i64 0)], none⟩, ⟨some 4, .p (.mov), [.t 8], none⟩]) (.ret))
theorem c101 : FnC Try.prog 101 9 a101 [.tmp 4] := ⟨Try.call101, _, _, Try.func101, rfl, by kernel_rfl, by kernel_rfl, rfl⟩
def a102 : AC := .seq (.ops false [] [⟨some 2, .p (.mov), [.c (.bool false)], none⟩]) (.seq (.ops false [] [⟨some 3, .p (.mov), [.t 0], none⟩, ⟨some 4, .call 103, [.t 3, .c (.int .i64 0), .c (.int .i64 10000000)], none⟩, ⟨some 5, .p (.notB), [.t 4], none⟩, ⟨some 2, .p (.mov), [.t 5], none⟩]) (.ret))
theorem c102 : FnC Try.prog 102 6 a102 [.tmp 2] := ⟨Try.call102, _, _, Try.func102, rfl, by kernel_rfl, by kernel_rfl, rfl⟩
def a105 : AC := .seq (.ops false [] [⟨some 2, .p (.mov), [.c (.nilslice)], none⟩, ⟨some 3, .p (.mov), [.c (.int .i64 0)], none⟩]) (.seq (.ops false [] [⟨some 7, .p (.mov), [.t 0], none⟩, ⟨some 8, .call 33, [.t 7], none⟩, ⟨some 6, .p (.mov), [.t 8], none⟩, ⟨some 9, .p (.ext 0), [.t 6], none⟩, ⟨some 10, .p (.ext 1), [.t 6], none⟩, ⟨some 4, .p (.mov), [.t 9], none⟩, ⟨some 5, .p (.mov), [.t 10], none⟩]) (.seq (.ops false [] [⟨some 11, .p (.mov), [.t 0], none⟩, ⟨some 12, .p (.mov), [.t 5], none⟩, ⟨some 2, .p (.mov), [.t 11], none⟩, ⟨some 3, .p (.mov), [.t 12], none⟩]) (.ret)))
theorem c105 : FnC Try.prog 105 13 a105 [.tmp 2, .tmp 3] := ⟨Try.call105, _, _, Try.func105, rfl, by kernel_rfl, by kernel_rfl, rfl⟩
def a137 : AC := .seq (.ops false [] [⟨some 4, .p (.mov), [.c (.int .i64 0)], none⟩]) (.seq (.seq (.ops false [] [⟨some 6, .p (.mov), [.t 0], none⟩, ⟨some 7, .p (.lenS), [.t 6], none⟩, ⟨some 8, .p (.mov), [.c (.int .i64 0)], none⟩]) (.block 0 (.loop (.seq (.ops false [] [⟨some 9, .p (.binI .lss), [.t 8, .t 7], none⟩]) (.seq (.cond (.t 9) (.skip) (.exit 0)) (.seq (.block 1 (.seq (.ops false [] [⟨some 10, .p (.mov), [.t 8], none⟩, ⟨some 5, .p (.mov), [.t 10], none⟩]) (.seq (.ops false [] [⟨some 11, .p (.mov), [.t 1], none⟩, ⟨some 12, .p (.mov), [.t 0], none⟩, ⟨some 13, .p (.mov), [.t 5], none⟩, ⟨some 14, .p (.iaddrS 1), [.t 12, .t 13], none⟩, ⟨some 15, .load 1 false, [.t 14], none⟩, ⟨some 16, .callv, [.t 11, .t 15], none⟩]) (.cond (.t 16) (.seq (.ops false [] [⟨some 17, .p (.mov), [.t 5], none⟩, ⟨some 4, .p (.mov), [.t 17], none⟩]) (.ret)) (.skip))))) (.ops false [] [⟨some 18, .p (.binI .add), [.t 8, .c (.int .i64 1)], none⟩, ⟨some 8, .p (.mov), [.t 18], none⟩]))))))) (.seq (.ops false [] [⟨some 4, .p (.mov), [.c (.int .i64 (-1))], none⟩]) (.ret)))
theorem c137 : FnC Try.prog 137 19 a137 [.tmp 4] := ⟨Try.call137, _, _, Try.func137, rfl, by kernel_rfl, by kernel_rfl, rfl⟩
def a138 : AC := .seq (.seq (.ops false [] [⟨some 10, .p (.mov), [.t 0], none⟩, ⟨some 11, .p (.lenS), [.t 10], none⟩, ⟨some 12, .load 1 false, [.t 2], none⟩, ⟨some 13, .p (.lenS), [.t 12], none⟩, ⟨some 14, .p (.binI .eql), [.t 11, .t 13], none⟩]) (.cond (.t 14) (.seq (.seq (.ops false [] [⟨some 15, .load 1 false, [.t 3], none⟩, ⟨some 16, .p (.lenS), [.t 15], none⟩, ⟨some 17, .p (.binI .eql), [.t 16, .c (.int .i64 0)], none⟩, ⟨some 18, .p (.mov), [.t 17], none⟩, ⟨some 19, .p (.mov), [.t 1], some (18, false)⟩, ⟨some 20, .load 1 false, [.t 4], some (18, false)⟩, ⟨some 21, .p (.binI .lss), [.t 19, .t 20], some (18, false)⟩, ⟨some 22, .p (.pick), [.t 18, .c (.bool true), .t 21], none⟩]) (.cond (.t 22) (.ops false [] [⟨some 23, .p (.mov), [.t 1], none⟩, ⟨none, .store 1 false, [.t 3, .c (.nilslice)], none⟩, ⟨none, .store 1 false, [.t 4, .t 23], none⟩]) (.skip))) (.seq (.seq (.ops false [] [⟨some 24, .p (.mov), [.t 1], none⟩, ⟨some 25, .load 1 false, [.t 4], none⟩, ⟨some 26, .p (.binI .eql), [.t 24, .t 25], none⟩]) (.cond (.t 26) (.ops true [] [⟨some 27, .load 1 false, [.t 3], none⟩, ⟨some 28, .p (.mov), [.t 0], none⟩, ⟨some 29, .call 139, [.t 28], none⟩, ⟨some 30, .fbs 1, [.t 29], none⟩, ⟨some 31, .app 38 1 24, [.t 27, .t 30], none⟩, ⟨none, .store 1 false, [.t 3, .t 31], none⟩]) (.skip))) (.ret))) (.skip))) (.seq (.ops false [] [⟨some 32, .load 1 false, [.t 2], none⟩, ⟨some 33, .p (.mov), [.t 0], none⟩, ⟨some 34, .p (.lenS), [.t 33], none⟩, ⟨some 35, .p (.iaddrS 1), [.t 32, .t 34], none⟩, ⟨some 36, .load 1 false, [.t 35], none⟩, ⟨some 37, .p (.lenS), [.t 36], none⟩, ⟨some 38, .p (.mov), [.c (.int .i64 0)], none⟩]) (.block 0 (.loop (.seq (.ops false [] [⟨some 39, .p (.binI .lss), [.t 38, .t 37], none⟩]) (.seq (.cond (.t 39) (.skip) (.exit 0)) (.seq (.block 1 (.seq (.ops false [] [⟨some 40, .p (.mov), [.t 38], none⟩, ⟨some 41, .p (.iaddrS 1), [.t 36, .t 38], none⟩, ⟨some 42, .load 1 false, [.t 41], none⟩, ⟨some 8, .p (.mov), [.t 40], none⟩, ⟨some 9, .p (.mov), [.t 42], none⟩]) (.seq (.ops false [] [⟨some 43, .p (.mov), [.t 0], none⟩, ⟨some 44, .p (.mov), [.t 8], none⟩, ⟨some 45, .call 140, [.t 43, .t 44], none⟩, ⟨some 46, .p (.notB), [.t 45], none⟩]) (.cond (.t 46) (.ops true [(0, 5)] [⟨some 47, .load 1 false, [.t 5], none⟩, ⟨some 48, .p (.mov), [.t 0], none⟩, ⟨some 49, .call 141, [.t 48], none⟩, ⟨some 50, .p (.mov), [.t 8], none⟩, ⟨some 51, .fbs 1, [.t 50], none⟩, ⟨some 52, .app 3 1 8, [.t 49, .t 51], none⟩, ⟨some 53, .p (.mov), [.t 1], none⟩, ⟨some 54, .p (.mov), [.t 9], none⟩, ⟨some 55, .p (.binI .add), [.t 53, .t 54], none⟩, ⟨some 56, .callv, [.t 47, .t 52, .t 55], none⟩]) (.skip))))) (.ops false [] [⟨some 57, .p (.binI .add), [.t 38, .c (.int .i64 1)], none⟩, ⟨some 38, .p (.mov), [.t 57], none⟩])))))))
theorem c138 : FnC Try.prog 138 58 a138 [] := ⟨Try.call138, _, _, Try.func138, rfl, by kernel_rfl, by kernel_rfl, rfl⟩
namespace Wa
abbrev L := List Int
abbrev eL (l : L) : AV := .vs (l.map eI)
def dL : AV → Option L
  | .vs us => decL decI us
  | _ => none
theorem dL_e (l : L) : dL (eL l) = some l := decL_map decI eI decI_I l
theorem dL_inv (v : AV) (l : L) (h : dL v = some l) : v = eL l := by
  unfold dL at h
  split at h
  · rw [decL_inv decI eI (fun v x => decI_inv) h]
  · cases h
theorem eL_inj (a b : L) (h : eL a = eL b) : a = b := map_inj (e := eI) (fun a b hab => by simpa using hab) _ _ (AV.vs.inj h)
theorem free_L1 (φ : Nat → Fate) (l : L) : sub1 φ (eL l) = eL l := by simp only [sub1, free_I]
theorem free_L (φ : Nat → Fate) (m : List L) : subs φ (m.map eL) = m.map eL := subs_mapE φ _ (free_L1 φ) m
def badN (x : Int) : Prop := ¬ (0 ≤ x ∧ x ≤ 10000000)
instance (x : Int) : Decidable (badN x) := by unfold badN; infer_instance
def badP (l : L) : Prop := ∃ x ∈ l, badN x
instance (l : L) : Decidable (badP l) := by unfold badP; infer_instance
theorem k_CheckMatrix1 (x : Int) : FOk P 102 [I x] (.bool (decide (badN x))) := by
  refine c102.fok rfl (Cor.run (addC_good g_within (noC_good _)) (noHx_good _) hm ?_)
  simp +contextual -implicitDefEqProofs (maxSteps := 2000000) only [bg_eq, a102, x_within, badN, ruB, rh_no, Int.reduceLT, Int.reduceLE, Int.reduceAdd, Int.reduceSub, Int.reduceMul, Int.reduceNeg, Int.reduceToNat, Int.reduceEq, Int.reduceNe, Int.reduceTDiv, Int.reduceTMod, implies_true, putL, appN, appX, appC, Eng.Fi, reduceCtorEq, exists_eq_left', exists_eq_left, if_true, if_false, List.replicate, Nat.reduceAdd, Nat.reduceSub, Nat.reduceMul, Nat.reduceLeDiff, Nat.reduceLT, Nat.reduceEqDiff]
def cf_CheckMatrix1 : List AV → Option AV
  | [.int .i64 x] => some (.bool (decide (badN x)))
  | _ => none
theorem g_CheckMatrix1 : Fn P 102 cf_CheckMatrix1 := fun args v h => by
  unfold cf_CheckMatrix1 at h; split at h
  · have h := Option.some.inj h; subst h; exact k_CheckMatrix1 _
  · cases h
theorem x_CheckMatrix1 (x : Int) : cf_CheckMatrix1 [.int .i64 x] = some (.bool (decide (badN x))) := rfl
def ifG : Nat → L → Int
  | _, [] => -1
  | n, y :: r => if badN y then n else ifG (n + 1) r
theorem ifG_bad : ∀ (l : L) (n : Nat), decide (0 ≤ ifG n l) = decide (badP l)
  | [], n => by simp [ifG, badP]
  | y :: r, n => by
    rw [ifG]
    split
    · rename_i h
      have : badP (y :: r) := ⟨y, by simp, h⟩
      simp [this]
    · rename_i h
      rw [ifG_bad r (n + 1)]
      exact decide_eq_decide.2 ⟨fun ⟨x, hx, hb⟩ => ⟨x, by simp [hx], hb⟩, fun ⟨x, hx, hb⟩ => by
        rcases List.mem_cons.1 hx with rfl | hx
        · exact absurd hb h
        · exact ⟨x, hx, hb⟩⟩
def S_ifI (l : L) (n : Nat) : AState := ⟨[.vs (l.map eI), .fn 102 [] [], .any, .any, .any, .any, .vs (l.map eI), I l.length, I n, .any, .any, .any, .any, .any, .any, .any, .any, .any, .any], [], 0⟩
theorem k_IndexFuncI (l : L) (hl : l.length ≤ 1099511627776) : FOk P 137 [.vs (l.map eI), .fn 102 [] []] (I (ifG 0 l)) := by
  refine c137.fok (by simp only [subs, sub1, free_I]) (Cor.run (addC_good g_CheckMatrix1 (noC_good _)) (noHx_good _) hm ?_)
  simp +contextual -implicitDefEqProofs (maxSteps := 2000000) only [bg_eq, a137, List.length_map, ruB, rh_no, Int.reduceLT, Int.reduceLE, Int.reduceAdd, Int.reduceSub, Int.reduceMul, Int.reduceNeg, Int.reduceToNat, Int.reduceEq, Int.reduceNe, Int.reduceTDiv, Int.reduceTMod, implies_true, putL, appN, appX, appC, Eng.Fi, reduceCtorEq, exists_eq_left', exists_eq_left, if_true, if_false, List.replicate, Nat.reduceAdd, Nat.reduceSub, Nat.reduceMul, Nat.reduceLeDiff, Nat.reduceLT, Nat.reduceEqDiff]
  refine Cor.lp (addC_good g_CheckMatrix1 (noC_good _)) (noHx_good _) hm (S_ifI l) (fun n => n ≤ l.length ∧ ifG 0 l = ifG n (l.drop n)) (fun n => l.length - n) (a := 0) ⟨Nat.zero_le _, rfl⟩ (Wkn.keep [0, 1, 6, 7, 8] rfl) ?_
  intro f n ⟨hn, hf⟩ go
  rcases Nat.lt_or_ge n l.length with h | h
  · have e1 : decide ((n : Int) < (l.length : Int)) = true := lt_t h
    have e2 : (l.map eI)[n]? = some (eI l[n]) := get_e eI l h
    have e3 : IntKind.wrap .i64 ((n : Int) + 1) = ((n + 1 : Nat) : Int) := suc_w (by omega)
    have y := x_CheckMatrix1 l[n]
    rw [List.drop_eq_getElem_cons h, ifG] at hf
    by_cases hc : badN l[n]
    · rw [if_pos hc] at hf
      simp +contextual -implicitDefEqProofs (maxSteps := 2000000) only [S_ifI, e1, e2, e3, y, hc, ruB, rh_no, Int.reduceLT, Int.reduceLE, Int.reduceAdd, Int.reduceSub, Int.reduceMul, Int.reduceNeg, Int.reduceToNat, Int.reduceEq, Int.reduceNe, Int.reduceTDiv, Int.reduceTMod, implies_true, putL, appN, appX, appC, Eng.Fi, reduceCtorEq, exists_eq_left', exists_eq_left, if_true, if_false, List.replicate, Nat.reduceAdd, Nat.reduceSub, Nat.reduceMul, Nat.reduceLeDiff, Nat.reduceLT, Nat.reduceEqDiff]
      rw [hf]
    · rw [if_neg hc] at hf
      simp +contextual -implicitDefEqProofs (maxSteps := 2000000) only [S_ifI, e1, e2, e3, y, hc, ruB, rh_no, Int.reduceLT, Int.reduceLE, Int.reduceAdd, Int.reduceSub, Int.reduceMul, Int.reduceNeg, Int.reduceToNat, Int.reduceEq, Int.reduceNe, Int.reduceTDiv, Int.reduceTMod, implies_true, putL, appN, appX, appC, Eng.Fi, reduceCtorEq, exists_eq_left', exists_eq_left, if_true, if_false, List.replicate, Nat.reduceAdd, Nat.reduceSub, Nat.reduceMul, Nat.reduceLeDiff, Nat.reduceLT, Nat.reduceEqDiff]
      exact go _ (n + 1) ⟨h, hf⟩ (by omega) (Wkn.keep [0, 1, 6, 7, 8] rfl)
  · have e1 : decide ((n : Int) < (l.length : Int)) = false := lt_f h
    rw [List.drop_eq_nil_of_le h] at hf
    simp +contextual -implicitDefEqProofs (maxSteps := 2000000) only [S_ifI, e1, ruB, rh_no, Int.reduceLT, Int.reduceLE, Int.reduceAdd, Int.reduceSub, Int.reduceMul, Int.reduceNeg, Int.reduceToNat, Int.reduceEq, Int.reduceNe, Int.reduceTDiv, Int.reduceTMod, implies_true, putL, appN, appX, appC, Eng.Fi, reduceCtorEq, exists_eq_left', exists_eq_left, if_true, if_false, List.replicate, Nat.reduceAdd, Nat.reduceSub, Nat.reduceMul, Nat.reduceLeDiff, Nat.reduceLT, Nat.reduceEqDiff]
    rw [hf]; rfl
def cf_IndexFuncI : List AV → Option AV
  | [.vs l_v, .fn 102 [] []] => onL dI l_v fun l => if l.length ≤ 1099511627776 then some (I (ifG 0 l)) else none
  | _ => none
theorem g_IndexFuncI : Fn P 137 cf_IndexFuncI := fun args v hh => by
  unfold cf_IndexFuncI at hh; split at hh
  · obtain ⟨l, rfl, hh1⟩ := onL_inv dI_inv hh
    split at hh1
    · rename_i hc; have hk := Option.some.inj hh1; subst hk; exact k_IndexFuncI _ hc
    · cases hh1
  · cases hh
theorem x_IndexFuncI (l : List Int) (hc : (l.length ≤ 1099511627776) = True) : cf_IndexFuncI [.vs (l.map eI), .fn 102 [] []] = some (I (ifG 0 l)) := by
  simp only [cf_IndexFuncI, onL_map dI_e]
  exact if_pos (by rw [hc]; trivial)
theorem k_ContainsFuncI (l : L) (hl : l.length ≤ 1099511627776) : FOk P 101 [.vs (l.map eI), .fn 102 [] []] (.bool (decide (badP l))) := by
  have y := x_IndexFuncI l (by simp only [hl])
  rw [← ifG_bad l 0]
  refine c101.fok (by simp only [subs, sub1, free_I]) (Cor.run (addC_good g_IndexFuncI (noC_good _)) (noHx_good _) hm ?_)
  simp +contextual -implicitDefEqProofs (maxSteps := 2000000) only [bg_eq, a101, y, ruB, rh_no, Int.reduceLT, Int.reduceLE, Int.reduceAdd, Int.reduceSub, Int.reduceMul, Int.reduceNeg, Int.reduceToNat, Int.reduceEq, Int.reduceNe, Int.reduceTDiv, Int.reduceTMod, implies_true, putL, appN, appX, appC, Eng.Fi, reduceCtorEq, exists_eq_left', exists_eq_left, if_true, if_false, List.replicate, Nat.reduceAdd, Nat.reduceSub, Nat.reduceMul, Nat.reduceLeDiff, Nat.reduceLT, Nat.reduceEqDiff]
def cf_ContainsFuncI : List AV → Option AV
  | [.vs l_v, .fn 102 [] []] => onL dI l_v fun l => if l.length ≤ 1099511627776 then some (.bool (decide (badP l))) else none
  | _ => none
theorem g_ContainsFuncI : Fn P 101 cf_ContainsFuncI := fun args v hh => by
  unfold cf_ContainsFuncI at hh; split at hh
  · obtain ⟨l, rfl, hh1⟩ := onL_inv dI_inv hh
    split at hh1
    · rename_i hc; have hk := Option.some.inj hh1; subst hk; exact k_ContainsFuncI _ hc
    · cases hh1
  · cases hh
theorem x_ContainsFuncI (l : List Int) (hc : (l.length ≤ 1099511627776) = True) : cf_ContainsFuncI [.vs (l.map eI), .fn 102 [] []] = some (.bool (decide (badP l))) := by
  simp only [cf_ContainsFuncI, onL_map dI_e]
  exact if_pos (by rw [hc]; trivial)
def roE (n : Nat) (r : L) : Int := firstE [unl ((r.length : Int) = (n : Int)) 10, unl (¬ badP r) 2]
def cmG (n : Nat) : Nat → List L → Int × Int
  | _, [] => (0, 0)
  | i, r :: rs => if roE n r = 0 then cmG n (i + 1) rs else ((i : Int), roE n r)
def cmE (m : List L) : Int := firstE [unl (0 < (m.length : Int)) 10, unl ((m.length : Int) ≤ 6) 8]
def cmV (m : List L) : Int × Int := if cmE m = 0 then cmG m.length 0 m else (0, cmE m)
def S_cm (m : List L) (k : Nat) : AState := ⟨[.any, .any, .any, .any, I m.length, .any, .any, .any, .any, .any, .any, .any, .any, .any, .any, .any, .any, .any, .any, .any, .any, .any, .any, .vs (m.map eL), I m.length, I k, .any, .any, .any, .any, .any, .any, .any, .any, .any, .any, .any, .any, .any, .any, .any, .any, .any, .any, .any, .any, .any], [], 0⟩
theorem k_CheckMatrix (m : List L) (hm' : m.length ≤ 1099511627776 ∧ ∀ r ∈ m, r.length ≤ 1099511627776) : FOk P 33 [.vs (m.map eL)] (.tup [I (cmV m).1, I (cmV m).2]) := by
  obtain ⟨hl, hr⟩ := hm'
  by_cases h0 : cmE m = 0
  · rw [cmV, if_pos h0]
    unfold cmE at h0
    refine c33.fok (by simp only [subs, sub1, free_L]) (Cor.run (addC_good g_ContainsFuncI (addC_good g_first (addC_good g_unless (noC_good _)))) (noHx_good _) hm ?_)
    simp +contextual -implicitDefEqProofs (maxSteps := 2000000) only [bg_eq, a33, List.length_map, x_unless, x_first, y_first, h0, not_true_eq_false, ruB, rh_no, Int.reduceLT, Int.reduceLE, Int.reduceAdd, Int.reduceSub, Int.reduceMul, Int.reduceNeg, Int.reduceToNat, Int.reduceEq, Int.reduceNe, Int.reduceTDiv, Int.reduceTMod, implies_true, putL, appN, appX, appC, Eng.Fi, reduceCtorEq, exists_eq_left', exists_eq_left, if_true, if_false, List.replicate, Nat.reduceAdd, Nat.reduceSub, Nat.reduceMul, Nat.reduceLeDiff, Nat.reduceLT, Nat.reduceEqDiff]
    refine Cor.lp (addC_good g_ContainsFuncI (addC_good g_first (addC_good g_unless (noC_good _)))) (noHx_good _) hm (S_cm m) (fun k => k ≤ m.length ∧ cmG m.length 0 m = cmG m.length k (m.drop k)) (fun k => m.length - k) (a := 0) ⟨Nat.zero_le _, rfl⟩ (Wkn.keep [4, 23, 24, 25] rfl) ?_
    intro f k ⟨hk, hf⟩ go
    rcases Nat.lt_or_ge k m.length with h | h
    · have e1 : decide ((k : Int) < (m.length : Int)) = true := lt_t h
      have e2 : (m.map eL)[k]? = some (eL m[k]) := get_e eL m h
      have e3 : IntKind.wrap .i64 ((k : Int) + 1) = ((k + 1 : Nat) : Int) := suc_w (by omega)
      have hrk := hr m[k] (by simp)
      rw [List.drop_eq_getElem_cons h, cmG] at hf
      generalize m[k] = r at *
      have y := x_ContainsFuncI r (by simp only [hrk])
      by_cases c1 : roE m.length r = 0
      · rw [if_pos c1] at hf
        unfold roE at c1
        simp +contextual -implicitDefEqProofs (maxSteps := 2000000) only [S_cm, e1, e2, e3, y, x_unless, x_first, y_first, List.length_map, c1, not_true_eq_false, ruB, rh_no, Int.reduceLT, Int.reduceLE, Int.reduceAdd, Int.reduceSub, Int.reduceMul, Int.reduceNeg, Int.reduceToNat, Int.reduceEq, Int.reduceNe, Int.reduceTDiv, Int.reduceTMod, implies_true, putL, appN, appX, appC, Eng.Fi, reduceCtorEq, exists_eq_left', exists_eq_left, if_true, if_false, List.replicate, Nat.reduceAdd, Nat.reduceSub, Nat.reduceMul, Nat.reduceLeDiff, Nat.reduceLT, Nat.reduceEqDiff]
        exact go _ (k + 1) ⟨h, hf⟩ (by omega) (Wkn.keep [4, 23, 24, 25] rfl)
      · rw [if_neg c1] at hf
        rw [hf]
        unfold roE at c1 ⊢
        simp +contextual -implicitDefEqProofs (maxSteps := 2000000) only [S_cm, e1, e2, e3, y, x_unless, x_first, y_first, List.length_map, c1, not_false_eq_true, ruB, rh_no, Int.reduceLT, Int.reduceLE, Int.reduceAdd, Int.reduceSub, Int.reduceMul, Int.reduceNeg, Int.reduceToNat, Int.reduceEq, Int.reduceNe, Int.reduceTDiv, Int.reduceTMod, implies_true, putL, appN, appX, appC, Eng.Fi, reduceCtorEq, exists_eq_left', exists_eq_left, if_true, if_false, List.replicate, Nat.reduceAdd, Nat.reduceSub, Nat.reduceMul, Nat.reduceLeDiff, Nat.reduceLT, Nat.reduceEqDiff]
    · have e1 : decide ((k : Int) < (m.length : Int)) = false := lt_f h
      rw [List.drop_eq_nil_of_le h, cmG] at hf
      rw [hf]
      simp +contextual -implicitDefEqProofs (maxSteps := 2000000) only [S_cm, e1, ruB, rh_no, Int.reduceLT, Int.reduceLE, Int.reduceAdd, Int.reduceSub, Int.reduceMul, Int.reduceNeg, Int.reduceToNat, Int.reduceEq, Int.reduceNe, Int.reduceTDiv, Int.reduceTMod, implies_true, putL, appN, appX, appC, Eng.Fi, reduceCtorEq, exists_eq_left', exists_eq_left, if_true, if_false, List.replicate, Nat.reduceAdd, Nat.reduceSub, Nat.reduceMul, Nat.reduceLeDiff, Nat.reduceLT, Nat.reduceEqDiff]
  · rw [cmV, if_neg h0]
    unfold cmE at h0 ⊢
    refine c33.fok (by simp only [subs, sub1, free_L]) (Cor.run (addC_good g_ContainsFuncI (addC_good g_first (addC_good g_unless (noC_good _)))) (noHx_good _) hm ?_)
    simp +contextual -implicitDefEqProofs (maxSteps := 2000000) only [bg_eq, a33, List.length_map, x_unless, x_first, y_first, h0, not_false_eq_true, ruB, rh_no, Int.reduceLT, Int.reduceLE, Int.reduceAdd, Int.reduceSub, Int.reduceMul, Int.reduceNeg, Int.reduceToNat, Int.reduceEq, Int.reduceNe, Int.reduceTDiv, Int.reduceTMod, implies_true, putL, appN, appX, appC, Eng.Fi, reduceCtorEq, exists_eq_left', exists_eq_left, if_true, if_false, List.replicate, Nat.reduceAdd, Nat.reduceSub, Nat.reduceMul, Nat.reduceLeDiff, Nat.reduceLT, Nat.reduceEqDiff]
def cf_CheckMatrix : List AV → Option AV
  | [.vs m_v] => onL dL m_v fun m => if m.length ≤ 1099511627776 ∧ ∀ r ∈ m, r.length ≤ 1099511627776 then some (.tup [I (cmV m).1, I (cmV m).2]) else none
  | _ => none
theorem g_CheckMatrix : Fn P 33 cf_CheckMatrix := fun args v hh => by
  unfold cf_CheckMatrix at hh; split at hh
  · obtain ⟨m, rfl, hh1⟩ := onL_inv dL_inv hh
    split at hh1
    · rename_i hc; have hk := Option.some.inj hh1; subst hk; exact k_CheckMatrix _ hc
    · cases hh1
  · cases hh
theorem x_CheckMatrix (m : List L) (hc : (m.length ≤ 1099511627776 ∧ ∀ r ∈ m, r.length ≤ 1099511627776) = True) : cf_CheckMatrix [.vs (m.map eL)] = some (.tup [I (cmV m).1, I (cmV m).2]) := by
  simp only [cf_CheckMatrix, onL_map dL_e]
  exact if_pos (by rw [hc]; trivial)
theorem k_open (m : List L) (h : m.length ≤ 1099511627776 ∧ ∀ r ∈ m, r.length ≤ 1099511627776) : FOk P 105 [.vs (m.map eL)] (.tup [.vs (m.map eL), I (cmV m).2]) := by
  have y := x_CheckMatrix m (by simp only [eq_iff_iff, iff_true]; exact h)
  refine c105.fok (by simp only [subs, sub1, free_L]) (Cor.run (addC_good g_CheckMatrix (noC_good _)) (noHx_good _) hm ?_)
  simp +contextual -implicitDefEqProofs (maxSteps := 2000000) only [bg_eq, a105, y, free_L, ruB, rh_no, Int.reduceLT, Int.reduceLE, Int.reduceAdd, Int.reduceSub, Int.reduceMul, Int.reduceNeg, Int.reduceToNat, Int.reduceEq, Int.reduceNe, Int.reduceTDiv, Int.reduceTMod, implies_true, putL, appN, appX, appC, Eng.Fi, reduceCtorEq, exists_eq_left', exists_eq_left, if_true, if_false, List.replicate, Nat.reduceAdd, Nat.reduceSub, Nat.reduceMul, Nat.reduceLeDiff, Nat.reduceLT, Nat.reduceEqDiff]
def cf_open : List AV → Option AV
  | [.vs m_v] => onL dL m_v fun m => if m.length ≤ 1099511627776 ∧ ∀ r ∈ m, r.length ≤ 1099511627776 then some (.tup [.vs (m.map eL), I (cmV m).2]) else none
  | _ => none
theorem g_open : Fn P 105 cf_open := fun args v hh => by
  unfold cf_open at hh; split at hh
  · obtain ⟨m, rfl, hh1⟩ := onL_inv dL_inv hh
    split at hh1
    · rename_i hc; have hk := Option.some.inj hh1; subst hk; exact k_open _ hc
    · cases hh1
  · cases hh
theorem x_open (m : List L) (hc : (m.length ≤ 1099511627776 ∧ ∀ r ∈ m, r.length ≤ 1099511627776) = True) : cf_open [.vs (m.map eL)] = some (.tup [.vs (m.map eL), I (cmV m).2]) := by
  simp only [cf_open, onL_map dL_e]
  exact if_pos (by rw [hc]; trivial)
/-- a matrix without an error -/
structure maR (m : List L) : Prop where
  n : 0 < m.length ∧ m.length ≤ 6
  r : ∀ r ∈ m, r.length = m.length ∧ ∀ x ∈ r, 0 ≤ x ∧ x ≤ 10000000
theorem roE_z {n : Nat} {r : L} (h : roE n r = 0) : r.length = n ∧ ∀ x ∈ r, 0 ≤ x ∧ x ≤ 10000000 := by
  have z := firstE_zero h
  have a1 := unl_zero (z (unl ((r.length : Int) = (n : Int)) 10) (by simp)) (by decide)
  have a2 := unl_zero (z (unl (¬ badP r) 2) (by simp)) (by decide)
  refine ⟨by omega, fun x hx => Decidable.byContradiction fun hb => a2 ⟨x, hx, hb⟩⟩
theorem cmG_z {n : Nat} : ∀ {l : List L} {i : Nat}, (cmG n i l).2 = 0 → ∀ r ∈ l, r.length = n ∧ ∀ x ∈ r, 0 ≤ x ∧ x ≤ 10000000
  | [], _, _, r, h => by simp at h
  | y :: l, i, h, r, hr => by
    rw [cmG] at h
    split at h
    · rename_i hy
      rcases List.mem_cons.1 hr with rfl | hr
      · exact roE_z hy
      · exact cmG_z h r hr
    · rename_i hy; exact absurd h hy
theorem cmV_z {m : List L} (h : (cmV m).2 = 0) : maR m := by
  unfold cmV at h
  split at h
  · rename_i h0
    have z := firstE_zero h0
    have a1 := unl_zero (z (unl (0 < (m.length : Int)) 10) (by simp)) (by decide)
    have a2 := unl_zero (z (unl ((m.length : Int) ≤ 6) 8) (by simp)) (by decide)
    exact ⟨by omega, cmG_z h⟩
  · rename_i h0; exact absurd h h0
theorem roE_of {n : Nat} {r : L} (h : r.length = n ∧ ∀ x ∈ r, 0 ≤ x ∧ x ≤ 10000000) : roE n r = 0 := by
  refine firstE_all fun e he => ?_
  simp only [List.mem_cons, List.not_mem_nil, or_false] at he
  rcases he with rfl | rfl
  · exact unl_t _ (by omega)
  · exact unl_t _ fun ⟨x, hx, hb⟩ => hb (h.2 x hx)
theorem cmG_of {n : Nat} : ∀ {l : List L} {i : Nat}, (∀ r ∈ l, r.length = n ∧ ∀ x ∈ r, 0 ≤ x ∧ x ≤ 10000000) → cmG n i l = (0, 0)
  | [], _, _ => rfl
  | y :: l, i, h => by
    rw [cmG, if_pos (roE_of (h y (by simp)))]
    exact cmG_of fun r hr => h r (by simp [hr])
theorem cmV_of {m : List L} (h : maR m) : cmV m = (0, 0) := by
  have h0 : cmE m = 0 := by
    have := h.n
    refine firstE_all fun e he => ?_
    simp only [List.mem_cons, List.not_mem_nil, or_false] at he
    rcases he with rfl | rfl
    · exact unl_t _ (by omega)
    · exact unl_t _ (by omega)
  rw [cmV, if_pos h0]
  exact cmG_of h.r
end Wa
open Go Go.Proofs Eng
set_option maxRecDepth 100000
set_option linter.unusedSimpArgs false
set_option linter.unusedVariables false
namespace Wa
/-- all orders that begin with p, f longer -/
def permG (N : Nat) : Nat → List Int → List (List Int)
  | 0, p => [p]
  | f + 1, p => (List.range N).flatMap fun (k : Nat) => if ((k : Nat) : Int) ∈ p then [] else permG N f (p ++ [((k : Nat) : Int)])
def permO (N f : Nat) (p : List Int) (k : Nat) : List (List Int) := if ((k : Nat) : Int) ∈ p then [] else permG N f (p ++ [((k : Nat) : Int)])
def permD (N f : Nat) (p : List Int) (k : Nat) : List (List Int) := ((List.range N).drop k).flatMap (permO N f p)
theorem permD_0 (N f : Nat) (p : List Int) : permG N (f + 1) p = permD N f p 0 := rfl
theorem permD_c {N f k : Nat} {p : List Int} (h : k < N) : permD N f p k = permO N f p k ++ permD N f p (k + 1) := by
  unfold permD
  rw [List.drop_eq_getElem_cons (by simpa using h), List.flatMap_cons, List.getElem_range]
theorem permD_n {N f k : Nat} {p : List Int} (h : N ≤ k) : permD N f p k = [] := by
  unfold permD
  rw [List.drop_eq_nil_of_le (by simpa using h)]; rfl
theorem perm_mem {N : Nat} : ∀ (f : Nat) (p : List Int), (∀ k ∈ p, 0 ≤ k ∧ k < N) → p.length + f = N → ∀ q ∈ permG N f p, q.length = N ∧ ∀ k ∈ q, 0 ≤ k ∧ k < N
  | 0, p, h, hl, q, hq => by
    rw [permG, List.mem_singleton] at hq
    subst hq
    exact ⟨by omega, h⟩
  | f + 1, p, h, hl, q, hq => by
    rw [permG] at hq
    obtain ⟨k, hk, hq⟩ := List.mem_flatMap.1 hq
    split at hq
    · simp at hq
    · refine perm_mem f (p ++ [(k : Int)]) (fun z hz => ?_) (by simp only [List.length_append, List.length_cons, List.length_nil]; omega) q hq
      rcases List.mem_append.1 hz with hz | hz
      · exact h z hz
      · rw [List.mem_singleton.1 hz]
        have := List.mem_range.1 hk
        omega
theorem perm_nodup {N : Nat} : ∀ (f : Nat) (p q : List Int), p.Nodup → q ∈ permG N f p → q.Nodup
  | 0, p, q, hp, h => by rw [permG, List.mem_singleton] at h; rw [h]; exact hp
  | f + 1, p, q, hp, h => by
    rw [permG] at h
    obtain ⟨k, hk, hq⟩ := List.mem_flatMap.1 h
    split at hq
    · simp at hq
    · rename_i hk2
      exact perm_nodup f _ _ (List.nodup_append.2 ⟨hp, by simp, fun a ha b hb => by rw [List.mem_singleton.1 hb]; exact fun e => hk2 (e ▸ ha)⟩) hq
theorem perm_all {N : Nat} : ∀ (f : Nat) (p r : List Int), r.length = f → (∀ i ∈ r, 0 ≤ i ∧ i < N) → (∀ i ∈ r, ¬ i ∈ p) → r.Nodup → p ++ r ∈ permG N f p
  | 0, p, r, h, _, _, _ => by
    rw [List.eq_nil_of_length_eq_zero h, List.append_nil, permG]; simp
  | f + 1, p, [], h, _, _, _ => by simp at h
  | f + 1, p, i :: r, h, h1, h2, h3 => by
    rw [permG]
    have hi := h1 i (by simp)
    refine List.mem_flatMap.2 ⟨i.toNat, List.mem_range.2 (by omega), ?_⟩
    have e : ((i.toNat : Nat) : Int) = i := Int.toNat_of_nonneg hi.1
    rw [e, if_neg (h2 i (by simp))]
    have hn := List.nodup_cons.1 h3
    have := perm_all (N := N) f (p ++ [i]) r (by simpa using h) (fun j hj => h1 j (by simp [hj])) (fun j hj hm => by
      rcases List.mem_append.1 hm with hm | hm
      · exact h2 j (by simp [hj]) hm
      · rw [List.mem_singleton.1 hm] at hj; exact hn.1 hj) hn.2
    rwa [List.append_assoc] at this
def cell (m : List L) (i : Nat) (k : Int) : Int := ((m[i]?).bind fun r => r[k.toNat]?).getD 0
def cstG (m : List L) : Nat → L → Int
  | _, [] => 0
  | i, k :: p => cell m i k + cstG m (i + 1) p
def cst (m : List L) (p : L) : Int := cstG m 0 p
theorem cstG_snoc (m : List L) (k : Int) : ∀ (p : L) (i : Nat), cstG m i (p ++ [k]) = cstG m i p + cell m (i + p.length) k
  | [], i => by simp [cstG]
  | x :: p, i => by
    rw [List.cons_append, cstG, cstG, cstG_snoc m k p (i + 1), List.length_cons, show i + 1 + p.length = i + (p.length + 1) by omega]
    omega
theorem cst_snoc (m : List L) (p : L) (k : Int) : cst m (p ++ [k]) = cst m p + cell m p.length k := by
  unfold cst
  rw [cstG_snoc, Nat.zero_add]
theorem cell_bd {m : List L} (h : maR m) (i : Nat) (k : Int) : 0 ≤ cell m i k ∧ cell m i k ≤ 10000000 := by
  unfold cell
  cases hi : m[i]? with
  | none => simp
  | some r =>
    simp only [Option.bind_some]
    cases hk : r[k.toNat]? with
    | none => simp
    | some x => exact (h.r r (List.mem_of_getElem? hi)).2 x (List.mem_of_getElem? hk)
theorem cstG_bd {m : List L} (h : maR m) : ∀ (p : L) (i : Nat), 0 ≤ cstG m i p ∧ cstG m i p ≤ 10000000 * p.length
  | [], i => by simp [cstG]
  | k :: p, i => by
    have h1 := cell_bd h i k
    have h2 := cstG_bd h p (i + 1)
    rw [cstG, List.length_cons]
    omega
theorem cst_bd {m : List L} (h : maR m) (p : L) : 0 ≤ cst m p ∧ cst m p ≤ 10000000 * p.length := cstG_bd h p 0
theorem cell_get {m : List L} {i k : Nat} (hi : i < m.length) (hk : k < m[i].length) : cell m i (k : Int) = m[i][k] := by
  unfold cell
  rw [List.getElem?_eq_getElem hi]
  simp only [Option.bind_some, Int.toNat_natCast, List.getElem?_eq_getElem hk, Option.getD_some]
abbrev GS := Option (List L × Int × Nat × Nat)
abbrev GF (m : List L) : AV := .fn 138 [] [.vp [.vs (m.map eL)] 0 0, .ptr 0 1 0 0, .ptr 1 1 0 0, .ptr 2 1 0 0]
def Jg (m : List L) : GS → List HEnt
  | none => [⟨2, 2, .rows 197 1 [GF m]⟩, ⟨1, 1, .rows 3 1 [I 0]⟩, ⟨0, 0, .rows 66 1 [.nilslice]⟩]
  | some (l, c, id, g) => [⟨id, g, .rows 38 1 (l.map eL)⟩, ⟨2, 2, .rows 197 1 [GF m]⟩, ⟨1, 1, .rows 3 1 [I c]⟩, ⟨0, 0, .rows 66 1 [.slice id 1 0 l.length]⟩]
theorem Jg_inj (m : List L) : ∀ (x y : GS), Jg m x = Jg m y → x = y
  | none, none, _ => rfl
  | none, some (l, c, id, g), h => by simp [Jg] at h
  | some (l, c, id, g), none, h => by simp [Jg] at h
  | some (l, c, id, g), some (l', c', id', g'), h => by
    simp only [Jg, List.cons.injEq, HEnt.mk.injEq, ABlk.rows.injEq, AV.int.injEq, AV.slice.injEq, true_and, and_true] at h
    obtain ⟨⟨h1, h2, h3⟩, h4, h5⟩ := h
    rw [h1, h2, h4, map_inj eL_inj _ _ h3]
def gok (N : Nat) : GS → Prop
  | none => 3 ≤ N
  | some (l, c, id, g) => 3 ≤ N ∧ (3 ≤ id ∧ id < N) ∧ (3 ≤ g ∧ g < N) ∧ 0 < l.length ∧ l.length ≤ 100000
def stepG (m : List L) : GS × Nat → L → GS × Nat
  | (none, N), p => (some ([p], cst m p, N, N), N + 1)
  | (some (l, c, id, g), N), p => if cst m p < c then (some ([p], cst m p, N, N), N + 1) else if cst m p = c then (some (l ++ [p], c, N, g), N + 1) else (some (l, c, id, g), N)
def gF (m : List L) (q : GS × Nat) (l : List L) : GS × Nat := l.foldl (stepG m) q
theorem gF_app (m : List L) (q : GS × Nat) (a b : List L) : gF m q (a ++ b) = gF m (gF m q a) b := List.foldl_append
/-- how many there may be -/
def gle (m : List L) (k : Nat) : GS → Prop
  | none => True
  | some (l, _) => l.length ≤ k
theorem gF_ok {m : List L} : ∀ (l : List L) (q : GS × Nat) (k : Nat), gok q.2 q.1 → gle m k q.1 → k + l.length ≤ 100000 → gok (gF m q l).2 (gF m q l).1 ∧ gle m (k + l.length) (gF m q l).1 ∧ q.2 ≤ (gF m q l).2
  | [], q, k, h1, h2, h3 => ⟨h1, h2, Nat.le_refl _⟩
  | p :: l, (x, N), k, h1, h2, h3 => by
    simp only [List.length_cons] at h3
    have key : gok (stepG m (x, N) p).2 (stepG m (x, N) p).1 ∧ gle m (k + 1) (stepG m (x, N) p).1 ∧ N ≤ (stepG m (x, N) p).2 := by
      cases x with
      | none =>
        have h1 : 3 ≤ N := h1
        refine ⟨?_, ?_, ?_⟩
        · show 3 ≤ N + 1 ∧ (3 ≤ N ∧ N < N + 1) ∧ (3 ≤ N ∧ N < N + 1) ∧ 0 < 1 ∧ 1 ≤ 100000
          omega
        · show 1 ≤ k + 1
          omega
        · show N ≤ N + 1
          omega
      | some y =>
        obtain ⟨l', c, id, g⟩ := y
        have h1 : 3 ≤ N ∧ (3 ≤ id ∧ id < N) ∧ (3 ≤ g ∧ g < N) ∧ 0 < l'.length ∧ l'.length ≤ 100000 := h1
        have h2 : l'.length ≤ k := h2
        rw [stepG]
        split
        · refine ⟨?_, ?_, by simp⟩
          · show 3 ≤ N + 1 ∧ (3 ≤ N ∧ N < N + 1) ∧ (3 ≤ N ∧ N < N + 1) ∧ 0 < 1 ∧ 1 ≤ 100000
            omega
          · show 1 ≤ k + 1
            omega
        · split
          · refine ⟨?_, ?_, by simp⟩
            · show 3 ≤ N + 1 ∧ (3 ≤ N ∧ N < N + 1) ∧ (3 ≤ g ∧ g < N + 1) ∧ 0 < (l' ++ [p]).length ∧ (l' ++ [p]).length ≤ 100000
              simp only [List.length_append, List.length_cons, List.length_nil]
              omega
            · show (l' ++ [p]).length ≤ k + 1
              simp only [List.length_append, List.length_cons, List.length_nil]
              omega
          · refine ⟨h1, ?_, Nat.le_refl _⟩
            show l'.length ≤ k + 1
            omega
    obtain ⟨a1, a2, a3⟩ := key
    obtain ⟨b1, b2, b3⟩ := gF_ok l (stepG m (x, N) p) (k + 1) a1 a2 (by omega)
    refine ⟨b1, ?_, Nat.le_trans a3 b3⟩
    have e : k + 1 + l.length = k + (p :: l).length := by simp only [List.length_cons]; omega
    rw [← e]; exact b2
theorem Low_g {m : List L} {x : GS} {N : Nat} (h : gok N x) : Low N (Jg m x) := by
  have hm : ∀ φ, subs φ (m.map eL) = m.map eL := fun φ => free_L φ m
  intro e he
  cases x with
  | none =>
    have h : 3 ≤ N := h
    simp only [Jg, List.mem_cons, List.not_mem_nil, or_false] at he
    rcases he with rfl | rfl | rfl
    · exact ⟨⟨by simp only; omega, by simp only; omega⟩, fun φ hφ => by simp only [ABlk.sub, subs, sub1, hm, hφ 0 (by omega), hφ 1 (by omega), hφ 2 (by omega)]⟩
    · exact ⟨⟨by simp only; omega, by simp only; omega⟩, fun φ hφ => rfl⟩
    · exact ⟨⟨by simp only; omega, by simp only; omega⟩, fun φ hφ => rfl⟩
  | some y =>
    obtain ⟨l, c, id, g⟩ := y
    have h : 3 ≤ N ∧ (3 ≤ id ∧ id < N) ∧ (3 ≤ g ∧ g < N) ∧ 0 < l.length ∧ l.length ≤ 100000 := h
    simp only [Jg, List.mem_cons, List.not_mem_nil, or_false] at he
    rcases he with rfl | rfl | rfl | rfl
    · exact ⟨⟨by simp only; omega, by simp only; omega⟩, fun φ hφ => by simp only [ABlk.sub, free_L]⟩
    · exact ⟨⟨by simp only; omega, by simp only; omega⟩, fun φ hφ => by simp only [ABlk.sub, subs, sub1, hm, hφ 0 (by omega), hφ 1 (by omega), hφ 2 (by omega)]⟩
    · exact ⟨⟨by simp only; omega, by simp only; omega⟩, fun φ hφ => rfl⟩
    · exact ⟨⟨by simp only; omega, by simp only; omega⟩, fun φ hφ => by simp only [ABlk.sub, subs, sub1, hφ id (by omega)]⟩
end Wa
open Go Go.Proofs Eng
set_option maxRecDepth 100000
set_option linter.unusedSimpArgs false
set_option linter.unusedVariables false
namespace Wa
abbrev caps (m : List L) : List AV := [.vp [.vs (m.map eL)] 0 0, .ptr 0 1 0 0, .ptr 1 1 0 0, .ptr 2 1 0 0]
def glt : GS → Prop
  | none => True
  | some (l, _) => l.length < 100000
theorem l_grow0 (m : List L) (p : L) (x : GS) (N : Nat) (hp : p.length = m.length) (hm6 : 0 < m.length ∧ m.length ≤ 6) (hx : gok N x) (hl : glt x) :
    LOk P 138 ([.vs (p.map eI), I (cst m p)] ++ caps m) (Jg m x) N (.tup []) (Jg m (stepG m (x, N) p).1) (stepG m (x, N) p).2 := by
  have yc := x_CloneI p (by simp only [eq_iff_iff, iff_true]; exact ⟨fun e => by rw [e] at hp; simp at hp; omega, by omega⟩)
  have e1 : ((p.length : Int) = (m.length : Int)) = True := by simp [hp]
  have hfm := fun φ => free_L φ m
  have hfp := fun φ => free_I φ p
  refine c138.lok (Cor.post (Cor.run (addC_good g_CloneI (noC_good _)) (noHx_good _) hm ?_))
  generalize hcc : cst m p = cc at *
  have o1 : (1 ≤ maxLen) = True := mx (by omega)
  cases x with
  | none =>
    have hx : 3 ≤ N := hx
    obtain ⟨M, rfl⟩ : ∃ M, N = M + 3 := ⟨N - 3, by omega⟩
    simp only [stepG, hcc]
    simp +contextual -implicitDefEqProofs (maxSteps := 2000000) only [bg_eq, a138, List.length_map, e1, yc, FinL, Jg, rs_nil, rs_t, rs_f, ag_nils, ag_sl, ag_vs, ag_str, ag_ptr, ag_nilp, ag_vp, ag_fun, o1, Nat.add_assoc, ruH, ruB, Int.reduceLT, Int.reduceLE, Int.reduceAdd, Int.reduceSub, Int.reduceMul, Int.reduceNeg, Int.reduceToNat, Int.reduceEq, Int.reduceNe, Int.reduceTDiv, Int.reduceTMod, implies_true, putL, appN, appX, appC, Eng.Fi, reduceCtorEq, exists_eq_left', exists_eq_left, if_true, if_false, List.replicate, Nat.reduceAdd, Nat.reduceSub, Nat.reduceMul, Nat.reduceLeDiff, Nat.reduceLT, Nat.reduceEqDiff]
    refine ⟨⟨[.any, .any, .any, .any, .any, .any, .any, .any, .any, .any, .any, .any, .any, .any, .any, .any, .any, .any, .any, .any, .any, .any, .any, .any, .any, .any, .any, .any, .any, .any, .any, .any, .any, .any, .any, .any, .any, .any, .any, .any, .any, .any, .any, .any, .any, .any, .any, .any, .any, .any, .any, .any, .any, .any, .any, .any, .any, .any], Jg m (some ([p], cc, M + 3, M + 3)), M + 4⟩, Wkn.to ⟨M + 3, [(M + 5, M + 3)], [], M + 4, []⟩ rfl ?_ ?_, _, rfl, rfl, rfl, rfl⟩
    · simp [Wk.ok, idg, Wk.isK, Wk.isF, nodupN, memN, assoc]
    · simp [Wk.st, keepT, memN, Wk.fate, Wk.fate0, assoc, getE, Wk.hp, ABlk.sub, sub1, subs, Jg, hfm, hfp]
  | some y =>
    obtain ⟨l, c, id, g⟩ := y
    have hx : 3 ≤ N ∧ (3 ≤ id ∧ id < N) ∧ (3 ≤ g ∧ g < N) ∧ 0 < l.length ∧ l.length ≤ 100000 := hx
    have hl : l.length < 100000 := hl
    obtain ⟨M, rfl⟩ : ∃ M, N = M + 3 := ⟨N - 3, by omega⟩
    have l0 : ((l.length : Int) = 0) = False := eq_false (by omega)
    have i0 : (id = 0) = False := eq_false (by omega)
    have i1 : (id = 1) = False := eq_false (by omega)
    have i2 : (id = 2) = False := eq_false (by omega)
    have j2 : (2 = id) = False := eq_false (by omega)
    have j1 : (1 = id) = False := eq_false (by omega)
    have j0 : (0 = id) = False := eq_false (by omega)
    have g0 : (g = 0) = False := eq_false (by omega)
    have g1 : (g = 1) = False := eq_false (by omega)
    have g2 : (g = 2) = False := eq_false (by omega)
    have k2 : (2 = g) = False := eq_false (by omega)
    have k1 : (1 = g) = False := eq_false (by omega)
    have k0 : (0 = g) = False := eq_false (by omega)
    have hfl := fun φ => free_L φ l
    have lid : id < M + 3 := hx.2.1.2
    have lgr : g < M + 3 := hx.2.2.1.2
    have m1 : (l.length + 1 ≤ maxLen) = True := mx (by omega)
    have m2 : ((l.length + 1) * 24 ≤ 140737488355328) = True := eq_true (by omega)
    have t0 : (l.map eL).length = l.length := by simp
    by_cases c1 : cc < c
    · have c1' := eq_true c1
      simp only [stepG, hcc, if_pos c1]
      simp +contextual -implicitDefEqProofs (maxSteps := 2000000) only [bg_eq, a138, List.length_map, e1, yc, FinL, Jg, rs_nil, rs_t, rs_f, ag_nils, ag_sl, ag_vs, ag_str, ag_ptr, ag_nilp, ag_vp, ag_fun, o1, l0, c1', i0, i1, i2, j0, j1, j2, g0, g1, g2, k0, k1, k2, Nat.add_assoc, not_false_eq_true, ruH, ruB, Int.reduceLT, Int.reduceLE, Int.reduceAdd, Int.reduceSub, Int.reduceMul, Int.reduceNeg, Int.reduceToNat, Int.reduceEq, Int.reduceNe, Int.reduceTDiv, Int.reduceTMod, implies_true, putL, appN, appX, appC, Eng.Fi, reduceCtorEq, exists_eq_left', exists_eq_left, if_true, if_false, List.replicate, Nat.reduceAdd, Nat.reduceSub, Nat.reduceMul, Nat.reduceLeDiff, Nat.reduceLT, Nat.reduceEqDiff]
      refine ⟨⟨[.any, .any, .any, .any, .any, .any, .any, .any, .any, .any, .any, .any, .any, .any, .any, .any, .any, .any, .any, .any, .any, .any, .any, .any, .any, .any, .any, .any, .any, .any, .any, .any, .any, .any, .any, .any, .any, .any, .any, .any, .any, .any, .any, .any, .any, .any, .any, .any, .any, .any, .any, .any, .any, .any, .any, .any, .any, .any], Jg m (some ([p], cc, M + 3, M + 3)), M + 4⟩, Wkn.trans (Wkn.sub (hp2 := [⟨M + 5, M + 5, .rows 38 1 [.vs (p.map eI)]⟩, ⟨2, 2, .rows 197 1 [GF m]⟩, ⟨1, 1, .rows 3 1 [I cc]⟩, ⟨0, 0, .rows 66 1 [.slice (M + 5) 1 0 1]⟩]) ?_) (Wkn.to ⟨M + 3, [(M + 5, M + 3)], [], M + 4, []⟩ rfl ?_ ?_), _, rfl, rfl, rfl, rfl⟩
      · intro e he
        simp only [List.mem_cons, List.not_mem_nil, or_false] at he ⊢
        rcases he with rfl | rfl | rfl | rfl <;> simp
      · simp [Wk.ok, idg, Wk.isK, Wk.isF, nodupN, memN, assoc]
      · simp [Wk.st, keepT, memN, Wk.fate, Wk.fate0, assoc, getE, Wk.hp, ABlk.sub, sub1, subs, Jg, hfm, hfp]
    · have c1' := eq_false c1
      by_cases c2 : cc = c
      · subst c2
        simp only [stepG, hcc, if_neg c1, if_true]
        simp +contextual -implicitDefEqProofs (maxSteps := 2000000) only [bg_eq, a138, List.length_map, e1, yc, FinL, Jg, rs_nil, rs_t, rs_f, ag_nils, ag_sl, ag_vs, ag_str, ag_ptr, ag_nilp, ag_vp, ag_fun, o1, l0, c1', i0, i1, i2, j0, j1, j2, g0, g1, g2, k0, k1, k2, m1, m2, t0, Nat.add_assoc, Nat.le_refl, not_false_eq_true, ruH, ruB, Int.reduceLT, Int.reduceLE, Int.reduceAdd, Int.reduceSub, Int.reduceMul, Int.reduceNeg, Int.reduceToNat, Int.reduceEq, Int.reduceNe, Int.reduceTDiv, Int.reduceTMod, implies_true, putL, appN, appX, appC, Eng.Fi, reduceCtorEq, exists_eq_left', exists_eq_left, if_true, if_false, List.replicate, Nat.reduceAdd, Nat.reduceSub, Nat.reduceMul, Nat.reduceLeDiff, Nat.reduceLT, Nat.reduceEqDiff]
        refine ⟨⟨[.any, .any, .any, .any, .any, .any, .any, .any, .any, .any, .any, .any, .any, .any, .any, .any, .any, .any, .any, .any, .any, .any, .any, .any, .any, .any, .any, .any, .any, .any, .any, .any, .any, .any, .any, .any, .any, .any, .any, .any, .any, .any, .any, .any, .any, .any, .any, .any, .any, .any, .any, .any, .any, .any, .any, .any, .any, .any], Jg m (some (l ++ [p], cc, M + 3, g)), M + 4⟩, Wkn.trans (Wkn.sub (hp2 := [⟨M + 3, g, .rows 38 1 (l.map eL ++ [.vs (p.map eI)])⟩, ⟨2, 2, .rows 197 1 [GF m]⟩, ⟨1, 1, .rows 3 1 [I cc]⟩, ⟨0, 0, .rows 66 1 [.slice (M + 3) 1 0 (l.length + 1)]⟩]) ?_) (Wkn.to ⟨M + 3, [(M + 3, M + 3)], [], M + 4, []⟩ rfl ?_ ?_), _, rfl, rfl, ?_, rfl⟩
        · intro e he
          simp only [List.mem_cons, List.not_mem_nil, or_false] at he ⊢
          rcases he with rfl | rfl | rfl | rfl <;> simp
        · simp [Wk.ok, idg, Wk.isK, Wk.isF, nodupN, memN, assoc, lgr, g0, g1, g2, k0, k1, k2]
        · simp [Wk.st, keepT, memN, Wk.fate, Wk.fate0, assoc, getE, Wk.hp, ABlk.sub, sub1, subs, Jg, hfm, hfp, hfl, subs_append, lgr]
        · simp [Jg]
      · have c2' := eq_false c2
        simp only [stepG, hcc, if_neg c1, if_neg c2]
        simp +contextual -implicitDefEqProofs (maxSteps := 2000000) only [bg_eq, a138, List.length_map, e1, yc, FinL, Jg, rs_nil, rs_t, rs_f, ag_nils, ag_sl, ag_vs, ag_str, ag_ptr, ag_nilp, ag_vp, ag_fun, o1, l0, c1', c2', i0, i1, i2, j0, j1, j2, g0, g1, g2, k0, k1, k2, Nat.add_assoc, not_false_eq_true, ruH, ruB, Int.reduceLT, Int.reduceLE, Int.reduceAdd, Int.reduceSub, Int.reduceMul, Int.reduceNeg, Int.reduceToNat, Int.reduceEq, Int.reduceNe, Int.reduceTDiv, Int.reduceTMod, implies_true, putL, appN, appX, appC, Eng.Fi, reduceCtorEq, exists_eq_left', exists_eq_left, if_true, if_false, List.replicate, Nat.reduceAdd, Nat.reduceSub, Nat.reduceMul, Nat.reduceLeDiff, Nat.reduceLT, Nat.reduceEqDiff]
        exact ⟨_, Wkn.rfl, _, rfl, rfl, rfl, rfl⟩
end Wa
