import Derived.Test.YtabkbhpeeefmgabEngS9
import Derived.Test.YtabkbhpeeefmgabW911
open Go Go.Proofs Eng
set_option maxRecDepth 100000
set_option linter.unusedSimpArgs false
set_option linter.unusedVariables false
def a11 : AC := .seq (.ops false [] [⟨some 2, .p (.mov), [.c (.int .i64 0)], none⟩, ⟨some 3, .p (.mov), [.c (.int .i64 0)], none⟩]) (.seq (.seq (.ops false [] [⟨some 6, .p (.mov), [.t 0], none⟩, ⟨some 7, .p (.lenS), [.t 6], none⟩, ⟨some 8, .p (.binI .eql), [.t 7, .c (.int .i64 0)], none⟩]) (.cond (.t 8) (.seq (.ops false [] [⟨some 2, .p (.mov), [.c (.int .i64 0)], none⟩, ⟨some 3, .p (.mov), [.c (.int .i64 10)], none⟩]) (.ret)) (.skip))) (.seq (.seq (.ops false [] [⟨some 9, .p (.mov), [.t 0], none⟩, ⟨some 10, .p (.lenS), [.t 9], none⟩, ⟨some 11, .p (.binI .gtr), [.t 10, .c (.int .i64 6)], none⟩]) (.cond (.t 11) (.seq (.ops false [] [⟨some 2, .p (.mov), [.c (.int .i64 0)], none⟩, ⟨some 3, .p (.mov), [.c (.int .i64 8)], none⟩]) (.ret)) (.skip))) (.seq (.seq (.ops false [] [⟨some 4, .p (.mov), [.c (.int .i64 0)], none⟩]) (.block 0 (.loop (.seq (.seq (.ops false [] [⟨some 12, .p (.mov), [.t 4], none⟩, ⟨some 13, .p (.mov), [.t 0], none⟩, ⟨some 14, .p (.lenS), [.t 13], none⟩, ⟨some 15, .p (.binI .lss), [.t 12, .t 14], none⟩]) (.cond (.t 15) (.skip) (.exit 0))) (.seq (.block 1 (.seq (.seq (.ops false [] [⟨some 18, .p (.mov), [.t 0], none⟩, ⟨some 19, .p (.mov), [.t 4], none⟩, ⟨some 20, .p (.iaddrS 1), [.t 18, .t 19], none⟩, ⟨some 21, .load 1 false, [.t 20], none⟩, ⟨some 22, .p (.lenS), [.t 21], none⟩, ⟨some 23, .p (.mov), [.t 0], none⟩, ⟨some 24, .p (.lenS), [.t 23], none⟩, ⟨some 25, .p (.binI .neq), [.t 22, .t 24], none⟩]) (.cond (.t 25) (.seq (.ops false [] [⟨some 26, .p (.mov), [.t 4], none⟩, ⟨some 2, .p (.mov), [.t 26], none⟩, ⟨some 3, .p (.mov), [.c (.int .i64 10)], none⟩]) (.ret)) (.skip))) (.seq (.ops false [] [⟨some 5, .p (.mov), [.c (.int .i64 0)], none⟩]) (.block 2 (.loop (.seq (.seq (.ops false [] [⟨some 27, .p (.mov), [.t 5], none⟩, ⟨some 28, .p (.mov), [.t 0], none⟩, ⟨some 29, .p (.lenS), [.t 28], none⟩, ⟨some 30, .p (.binI .lss), [.t 27, .t 29], none⟩]) (.cond (.t 30) (.skip) (.exit 2))) (.seq (.block 3 (.seq (.ops false [] [⟨some 33, .p (.mov), [.t 0], none⟩, ⟨some 34, .p (.mov), [.t 4], none⟩, ⟨some 35, .p (.iaddrS 1), [.t 33, .t 34], none⟩, ⟨some 36, .load 1 false, [.t 35], none⟩, ⟨some 37, .p (.mov), [.t 5], none⟩, ⟨some 38, .p (.iaddrS 1), [.t 36, .t 37], none⟩, ⟨some 39, .load 1 false, [.t 38], none⟩, ⟨some 40, .call 20, [.t 39, .c (.int .i64 0), .c (.int .i64 10000000)], none⟩, ⟨some 41, .p (.notB), [.t 40], none⟩]) (.cond (.t 41) (.seq (.ops false [] [⟨some 42, .p (.mov), [.t 4], none⟩, ⟨some 2, .p (.mov), [.t 42], none⟩, ⟨some 3, .p (.mov), [.c (.int .i64 2)], none⟩]) (.ret)) (.skip)))) (.ops false [] [⟨some 31, .p (.mov), [.t 5], none⟩, ⟨some 32, .p (.binI .add), [.t 31, .c (.int .i64 1)], none⟩, ⟨some 5, .p (.mov), [.t 32], none⟩])))))))) (.ops false [] [⟨some 16, .p (.mov), [.t 4], none⟩, ⟨some 17, .p (.binI .add), [.t 16, .c (.int .i64 1)], none⟩, ⟨some 4, .p (.mov), [.t 17], none⟩])))))) (.seq (.ops false [] [⟨some 2, .p (.mov), [.c (.int .i64 0)], none⟩, ⟨some 3, .p (.mov), [.c (.int .i64 0)], none⟩]) (.ret)))))
theorem c11 : FnC Try.prog 11 43 a11 [.tmp 2, .tmp 3] := ⟨Try.call11, _, _, Try.func11, rfl, by kernel_rfl, by kernel_rfl, rfl⟩
def a21 : AC := .seq (.ops false [] [⟨some 2, .p (.mov), [.c (.int .i64 0)], none⟩]) (.seq (.ops false [] [⟨some 6, .p (.mov), [.t 0], none⟩, ⟨some 7, .call 11, [.t 6], none⟩, ⟨some 5, .p (.mov), [.t 7], none⟩, ⟨some 8, .p (.ext 0), [.t 5], none⟩, ⟨some 9, .p (.ext 1), [.t 5], none⟩, ⟨some 3, .p (.mov), [.t 8], none⟩, ⟨some 4, .p (.mov), [.t 9], none⟩]) (.seq (.ops false [] [⟨some 10, .p (.mov), [.t 4], none⟩, ⟨some 2, .p (.mov), [.t 10], none⟩]) (.ret)))
theorem c21 : FnC Try.prog 21 11 a21 [.tmp 2] := ⟨Try.call21, _, _, Try.func21, rfl, by kernel_rfl, by kernel_rfl, rfl⟩
namespace Wa
end Wa
open Go Go.Proofs Eng
set_option maxRecDepth 100000
set_option linter.unusedSimpArgs false
set_option linter.unusedVariables false
namespace Wa
end Wa
open Go Go.Proofs Eng
set_option maxRecDepth 100000
set_option linter.unusedSimpArgs false
set_option linter.unusedVariables false
namespace Wa
end Wa
open Go Go.Proofs Eng
set_option maxRecDepth 100000
set_option linter.unusedSimpArgs false
set_option linter.unusedVariables false
namespace Wa
theorem bad_drop_c {r : L} {j : Nat} (h : j < r.length) : badP (r.drop j) ↔ badN r[j] ∨ badP (r.drop (j + 1)) := by
  unfold badP
  rw [List.drop_eq_getElem_cons h]
  constructor
  · rintro ⟨x, hx, hb⟩
    rcases List.mem_cons.1 hx with rfl | hx
    · exact .inl hb
    · exact .inr ⟨x, hx, hb⟩
  · rintro (hb | ⟨x, hx, hb⟩)
    · exact ⟨_, List.mem_cons_self, hb⟩
    · exact ⟨x, List.mem_cons_of_mem _ hx, hb⟩
theorem roE_len {n : Nat} {r : L} (h : ¬ r.length = n) : roE n r = 10 := by
  rw [roE, unl_f 10 (by omega)]; rfl
theorem roE_bad {n : Nat} {r : L} (h : r.length = n) (hb : badP r) : roE n r = 2 := by
  rw [roE, unl_t 10 (by omega), unl_f 2 (fun q => q hb)]; rfl
theorem roE_ok {n : Nat} {r : L} (h : r.length = n) (hb : ¬ badP r) : roE n r = 0 := by
  rw [roE, unl_t 10 (by omega), unl_t 2 hb]; rfl
def S_rm (m : List L) (k : Nat) : AState := ⟨[.vs (m.map eL), .any, .any, .any, I k, .any, .any, .any, .any, .any, .any, .any, .any, .any, .any, .any, .any, .any, .any, .any, .any, .any, .any, .any, .any, .any, .any, .any, .any, .any, .any, .any, .any, .any, .any, .any, .any, .any, .any, .any, .any, .any, .any], [], 0⟩
def S_rmi (m : List L) (k : Nat) (j : Nat) : AState := ⟨[.vs (m.map eL), .any, .any, .any, I k, I j, .any, .any, .any, .any, .any, .any, .any, .any, .any, .any, .any, .any, .any, .any, .any, .any, .any, .any, .any, .any, .any, .any, .any, .any, .any, .any, .any, .any, .any, .any, .any, .any, .any, .any, .any, .any, .any], [], 0⟩
set_option maxHeartbeats 1000000 in
theorem k_rCheckMatrix (m : List L) (hl : m.length ≤ 1099511627776 ∧ ∀ r ∈ m, r.length ≤ 1099511627776) : FOk P 11 [.vs (m.map eL)] (.tup [I (cmV m).1, I (cmV m).2]) := by
  obtain ⟨hl, hr⟩ := hl
  rw [cmV]
  by_cases h0 : m.length = 0
  · have h0' : ((m.length : Int) = 0) = True := eq_true (by omega)
    have hc : cmE m = 10 := by rw [cmE, unl_f 10 (by omega)]; rfl
    rw [hc, if_neg (by decide)]
    refine c11.fok (by simp only [subs, sub1, free_L]) (Cor.run (addC_good g_Within (noC_good _)) (noHx_good _) hm ?_)
    simp +contextual -implicitDefEqProofs (maxSteps := 2000000) only [bg_eq, a11, List.length_map, h0', ruB, rh_no, Int.reduceLT, Int.reduceLE, Int.reduceAdd, Int.reduceSub, Int.reduceMul, Int.reduceNeg, Int.reduceToNat, Int.reduceEq, Int.reduceNe, Int.reduceTDiv, Int.reduceTMod, implies_true, putL, appN, appX, appC, Eng.Fi, reduceCtorEq, exists_eq_left', exists_eq_left, if_true, if_false, List.replicate, Nat.reduceAdd, Nat.reduceSub, Nat.reduceMul, Nat.reduceLeDiff, Nat.reduceLT, Nat.reduceEqDiff]
  · have h0' : ((m.length : Int) = 0) = False := eq_false (by omega)
    by_cases h6 : 6 < m.length
    · have h6' : ((6 : Int) < (m.length : Int)) = True := eq_true (by omega)
      have hc : cmE m = 8 := by rw [cmE, unl_t 10 (by omega), unl_f 8 (by omega)]; rfl
      rw [hc, if_neg (by decide)]
      refine c11.fok (by simp only [subs, sub1, free_L]) (Cor.run (addC_good g_Within (noC_good _)) (noHx_good _) hm ?_)
      simp +contextual -implicitDefEqProofs (maxSteps := 2000000) only [bg_eq, a11, List.length_map, h0', h6', ruB, rh_no, Int.reduceLT, Int.reduceLE, Int.reduceAdd, Int.reduceSub, Int.reduceMul, Int.reduceNeg, Int.reduceToNat, Int.reduceEq, Int.reduceNe, Int.reduceTDiv, Int.reduceTMod, implies_true, putL, appN, appX, appC, Eng.Fi, reduceCtorEq, exists_eq_left', exists_eq_left, if_true, if_false, List.replicate, Nat.reduceAdd, Nat.reduceSub, Nat.reduceMul, Nat.reduceLeDiff, Nat.reduceLT, Nat.reduceEqDiff]
    · have h6' : ((6 : Int) < (m.length : Int)) = False := eq_false (by omega)
      have hc : cmE m = 0 := by rw [cmE, unl_t 10 (by omega), unl_t 8 (by omega)]; rfl
      rw [if_pos hc]
      refine c11.fok (by simp only [subs, sub1, free_L]) (Cor.run (addC_good g_Within (noC_good _)) (noHx_good _) hm ?_)
      simp +contextual -implicitDefEqProofs (maxSteps := 2000000) only [bg_eq, a11, List.length_map, h0', h6', ruB, rh_no, Int.reduceLT, Int.reduceLE, Int.reduceAdd, Int.reduceSub, Int.reduceMul, Int.reduceNeg, Int.reduceToNat, Int.reduceEq, Int.reduceNe, Int.reduceTDiv, Int.reduceTMod, implies_true, putL, appN, appX, appC, Eng.Fi, reduceCtorEq, exists_eq_left', exists_eq_left, if_true, if_false, List.replicate, Nat.reduceAdd, Nat.reduceSub, Nat.reduceMul, Nat.reduceLeDiff, Nat.reduceLT, Nat.reduceEqDiff]
      refine Cor.lp (addC_good g_Within (noC_good _)) (noHx_good _) hm (S_rm m) (fun k => k ≤ m.length ∧ cmG m.length 0 m = cmG m.length k (m.drop k)) (fun k => m.length - k) (a := 0) ⟨Nat.zero_le _, rfl⟩ (Wkn.keep [0, 4] rfl) ?_
      rintro f k ⟨hk, hf⟩ go
      rcases Nat.lt_or_ge k m.length with h | h
      · have e1 : decide ((k : Int) < (m.length : Int)) = true := lt_t h
        have e2 : (m.map eL)[k]? = some (eL m[k]) := get_e eL m h
        have e3 : IntKind.wrap .i64 ((k : Int) + 1) = ((k + 1 : Nat) : Int) := suc_w (by omega)
        have hrk := hr m[k] (by simp)
        rw [List.drop_eq_getElem_cons h, cmG] at hf
        obtain ⟨r, hre⟩ : ∃ r, m[k] = r := ⟨_, rfl⟩
        rw [hre] at e2 hrk hf
        by_cases c1 : r.length = m.length
        · have c1' : ((r.length : Int) = (m.length : Int)) = True := eq_true (by omega)
          simp +contextual -implicitDefEqProofs (maxSteps := 2000000) only [S_rm, e1, e2, c1', List.length_map, not_true_eq_false, ruB, rh_no, Int.reduceLT, Int.reduceLE, Int.reduceAdd, Int.reduceSub, Int.reduceMul, Int.reduceNeg, Int.reduceToNat, Int.reduceEq, Int.reduceNe, Int.reduceTDiv, Int.reduceTMod, implies_true, putL, appN, appX, appC, Eng.Fi, reduceCtorEq, exists_eq_left', exists_eq_left, if_true, if_false, List.replicate, Nat.reduceAdd, Nat.reduceSub, Nat.reduceMul, Nat.reduceLeDiff, Nat.reduceLT, Nat.reduceEqDiff]
          refine Cor.lp (addC_good g_Within (noC_good _)) (noHx_good _) hm (S_rmi m k) (fun j => j ≤ r.length ∧ (badP r ↔ badP (r.drop j))) (fun j => r.length - j) (a := 0) ⟨Nat.zero_le _, Iff.rfl⟩ (Wkn.keep [0, 4, 5] rfl) ?_
          rintro f2 j ⟨hj, hb⟩ go2
          rcases Nat.lt_or_ge j r.length with h2 | h2
          · have u1 : ((j : Int) < (m.length : Int)) = True := eq_true (by omega)
            have u2 : (r.map eI)[j]? = some (eI r[j]) := get_e eI r h2
            have u3 : IntKind.wrap .i64 ((j : Int) + 1) = ((j + 1 : Nat) : Int) := suc_w (by omega)
            rw [bad_drop_c h2] at hb
            generalize r[j] = x at *
            by_cases c2 : 0 ≤ x ∧ x ≤ 10000000
            · have c2' := eq_true c2
              simp +contextual -implicitDefEqProofs (maxSteps := 2000000) only [S_rmi, u1, u2, u3, e2, c2', x_Within, List.length_map, not_true_eq_false, ruB, rh_no, Int.reduceLT, Int.reduceLE, Int.reduceAdd, Int.reduceSub, Int.reduceMul, Int.reduceNeg, Int.reduceToNat, Int.reduceEq, Int.reduceNe, Int.reduceTDiv, Int.reduceTMod, implies_true, putL, appN, appX, appC, Eng.Fi, reduceCtorEq, exists_eq_left', exists_eq_left, if_true, if_false, List.replicate, Nat.reduceAdd, Nat.reduceSub, Nat.reduceMul, Nat.reduceLeDiff, Nat.reduceLT, Nat.reduceEqDiff]
              exact go2 _ (j + 1) ⟨h2, hb.trans ⟨fun q => q.elim (fun q => absurd c2 q) id, .inr⟩⟩ (by omega) (Wkn.keep [0, 4, 5] rfl)
            · have c2' := eq_false c2
              have hbad : badP r := hb.2 (.inl c2)
              have hro := roE_bad c1 hbad
              rw [hro, if_neg (by decide)] at hf
              rw [hf]
              simp +contextual -implicitDefEqProofs (maxSteps := 2000000) only [S_rmi, u1, u2, u3, e2, c2', x_Within, List.length_map, not_false_eq_true, ruB, rh_no, Int.reduceLT, Int.reduceLE, Int.reduceAdd, Int.reduceSub, Int.reduceMul, Int.reduceNeg, Int.reduceToNat, Int.reduceEq, Int.reduceNe, Int.reduceTDiv, Int.reduceTMod, implies_true, putL, appN, appX, appC, Eng.Fi, reduceCtorEq, exists_eq_left', exists_eq_left, if_true, if_false, List.replicate, Nat.reduceAdd, Nat.reduceSub, Nat.reduceMul, Nat.reduceLeDiff, Nat.reduceLT, Nat.reduceEqDiff]
          · have u1 : ((j : Int) < (m.length : Int)) = False := eq_false (by omega)
            have hnb : ¬ badP r := fun q => by
              have := hb.1 q
              rw [List.drop_eq_nil_of_le h2] at this
              obtain ⟨x, hx, _⟩ := this
              simp at hx
            have hro := roE_ok c1 hnb
            rw [hro, if_pos rfl] at hf
            simp +contextual -implicitDefEqProofs (maxSteps := 2000000) only [S_rmi, u1, e3, List.length_map, ruB, rh_no, Int.reduceLT, Int.reduceLE, Int.reduceAdd, Int.reduceSub, Int.reduceMul, Int.reduceNeg, Int.reduceToNat, Int.reduceEq, Int.reduceNe, Int.reduceTDiv, Int.reduceTMod, implies_true, putL, appN, appX, appC, Eng.Fi, reduceCtorEq, exists_eq_left', exists_eq_left, if_true, if_false, List.replicate, Nat.reduceAdd, Nat.reduceSub, Nat.reduceMul, Nat.reduceLeDiff, Nat.reduceLT, Nat.reduceEqDiff]
            exact go _ (k + 1) ⟨h, hf⟩ (by omega) (Wkn.keep [0, 4] rfl)
        · have c1' : ((r.length : Int) = (m.length : Int)) = False := eq_false (by omega)
          have hro := roE_len c1
          rw [hro, if_neg (by decide)] at hf
          rw [hf]
          simp +contextual -implicitDefEqProofs (maxSteps := 2000000) only [S_rm, e1, e2, c1', List.length_map, not_false_eq_true, ruB, rh_no, Int.reduceLT, Int.reduceLE, Int.reduceAdd, Int.reduceSub, Int.reduceMul, Int.reduceNeg, Int.reduceToNat, Int.reduceEq, Int.reduceNe, Int.reduceTDiv, Int.reduceTMod, implies_true, putL, appN, appX, appC, Eng.Fi, reduceCtorEq, exists_eq_left', exists_eq_left, if_true, if_false, List.replicate, Nat.reduceAdd, Nat.reduceSub, Nat.reduceMul, Nat.reduceLeDiff, Nat.reduceLT, Nat.reduceEqDiff]
      · have e1 : decide ((k : Int) < (m.length : Int)) = false := lt_f h
        rw [List.drop_eq_nil_of_le h, cmG] at hf
        rw [hf]
        simp +contextual -implicitDefEqProofs (maxSteps := 2000000) only [S_rm, e1, List.length_map, ruB, rh_no, Int.reduceLT, Int.reduceLE, Int.reduceAdd, Int.reduceSub, Int.reduceMul, Int.reduceNeg, Int.reduceToNat, Int.reduceEq, Int.reduceNe, Int.reduceTDiv, Int.reduceTMod, implies_true, putL, appN, appX, appC, Eng.Fi, reduceCtorEq, exists_eq_left', exists_eq_left, if_true, if_false, List.replicate, Nat.reduceAdd, Nat.reduceSub, Nat.reduceMul, Nat.reduceLeDiff, Nat.reduceLT, Nat.reduceEqDiff]
def cf_rCheckMatrix : List AV → Option AV
  | [.vs m_v] => onL dL m_v fun m => if m.length ≤ 1099511627776 ∧ ∀ r ∈ m, r.length ≤ 1099511627776 then some (.tup [I (cmV m).1, I (cmV m).2]) else none
  | _ => none
theorem g_rCheckMatrix : Fn P 11 cf_rCheckMatrix := fun args v hh => by
  unfold cf_rCheckMatrix at hh; split at hh
  · obtain ⟨m, rfl, hh1⟩ := onL_inv dL_inv hh
    split at hh1
    · rename_i hc; have hk := Option.some.inj hh1; subst hk; exact k_rCheckMatrix _ hc
    · cases hh1
  · cases hh
theorem x_rCheckMatrix (m : List L) (hc : (m.length ≤ 1099511627776 ∧ ∀ r ∈ m, r.length ≤ 1099511627776) = True) : cf_rCheckMatrix [.vs (m.map eL)] = some (.tup [I (cmV m).1, I (cmV m).2]) := by
  simp only [cf_rCheckMatrix, onL_map dL_e]
  exact if_pos (by rw [hc]; trivial)
theorem k_rMatrixErr (m : List L) (hl : m.length ≤ 1099511627776 ∧ ∀ r ∈ m, r.length ≤ 1099511627776) : FOk P 21 [.vs (m.map eL)] (I (cmV m).2) := by
  have y := x_rCheckMatrix m (by simp only [eq_iff_iff, iff_true]; exact hl)
  refine c21.fok (by simp only [subs, sub1, free_L]) (Cor.run (addC_good g_rCheckMatrix (noC_good _)) (noHx_good _) hm ?_)
  simp +contextual -implicitDefEqProofs (maxSteps := 2000000) only [bg_eq, a21, y, ruB, rh_no, Int.reduceLT, Int.reduceLE, Int.reduceAdd, Int.reduceSub, Int.reduceMul, Int.reduceNeg, Int.reduceToNat, Int.reduceEq, Int.reduceNe, Int.reduceTDiv, Int.reduceTMod, implies_true, putL, appN, appX, appC, Eng.Fi, reduceCtorEq, exists_eq_left', exists_eq_left, if_true, if_false, List.replicate, Nat.reduceAdd, Nat.reduceSub, Nat.reduceMul, Nat.reduceLeDiff, Nat.reduceLT, Nat.reduceEqDiff]
def cf_rMatrixErr : List AV → Option AV
  | [.vs m_v] => onL dL m_v fun m => if m.length ≤ 1099511627776 ∧ ∀ r ∈ m, r.length ≤ 1099511627776 then some (I (cmV m).2) else none
  | _ => none
theorem g_rMatrixErr : Fn P 21 cf_rMatrixErr := fun args v hh => by
  unfold cf_rMatrixErr at hh; split at hh
  · obtain ⟨m, rfl, hh1⟩ := onL_inv dL_inv hh
    split at hh1
    · rename_i hc; have hk := Option.some.inj hh1; subst hk; exact k_rMatrixErr _ hc
    · cases hh1
  · cases hh
theorem x_rMatrixErr (m : List L) (hc : (m.length ≤ 1099511627776 ∧ ∀ r ∈ m, r.length ≤ 1099511627776) = True) : cf_rMatrixErr [.vs (m.map eL)] = some (I (cmV m).2) := by
  simp only [cf_rMatrixErr, onL_map dL_e]
  exact if_pos (by rw [hc]; trivial)
end Wa
open Go Go.Proofs Eng
set_option maxRecDepth 100000
set_option linter.unusedSimpArgs false
set_option linter.unusedVariables false
namespace Wa
end Wa
