import Derived.Test.YtabkbhpeeefmgabEngS9
import Derived.Test.YtabkbhpeeefmgabW911
open Go Go.Proofs Eng
set_option maxRecDepth 100000
set_option linter.unusedSimpArgs false
set_option linter.unusedVariables false
def a11 : AC := .seq (.ops false [] [⟨some 2, .p (.mov), [.c (.int .i64 0)], none⟩, ⟨some 3, .p (.mov), [.c (.int .i64 0)], none⟩]) (.seq (.seq (.ops false [] [⟨some 6, .p (.mov), [.t 0], none⟩, ⟨some 7, .p (.lenS), [.t 6], none⟩, ⟨some 8, .p (.binI .eql), [.t 7, .c (.int .i64 0)], none⟩]) (.cond (.t 8) (.seq (.ops false [] [⟨some 2, .p (.mov), [.c (.int .i64 0)], none⟩, ⟨some 3, .p (.mov), [.c (.int .i64 10)], none⟩]) (.ret)) (.skip))) (.seq (.seq (.ops false [] [⟨some 9, .p (.mov), [.t 0], none⟩, ⟨some 10, .p (.lenS), [.t 9], none⟩, ⟨some 11, .p (.binI .gtr), [.t 10, .c (.int .i64 6)], none⟩]) (.cond (.t 11) (.seq (.ops false [] [⟨some 2, .p (.mov), [.c (.int .i64 0)], none⟩, ⟨some 3, .p (.mov), [.c (.int .i64 8)], none⟩]) (.ret)) (.skip))) (.seq (.seq (.ops false [] [⟨some 4, .p (.mov), [.c (.int .i64 0)], none⟩]) (.block 0 (.loop (.seq (.seq (.ops false [] [⟨some 12, .p (.mov), [.t 4], none⟩, ⟨some 13, .p (.mov), [.t 0], none⟩, ⟨some 14, .p (.lenS), [.t 13], none⟩, ⟨some 15, .p (.binI .lss), [.t 12, .t 14], none⟩]) (.cond (.t 15) (.skip) (.exit 0))) (.seq (.block 1 (.seq (.seq (.ops false [] [⟨some 18, .p (.mov), [.t 0], none⟩, ⟨some 19, .p (.mov), [.t 4], none⟩, ⟨some 20, .p (.iaddrS 1), [.t 18, .t 19], none⟩, ⟨some 21, .load 1 false, [.t 20], none⟩, ⟨some 22, .p (.lenS), [.t 21], none⟩, ⟨some 23, .p (.mov), [.t 0], none⟩, ⟨some 24, .p (.lenS), [.t 23], none⟩, ⟨some 25, .p (.binI .neq), [.t 22, .t 24], none⟩]) (.cond (.t 25) (.seq (.ops false [] [⟨some 26, .p (.mov), [.t 4], none⟩, ⟨some 2, .p (.mov), [.t 26], none⟩, ⟨some 3, .p (.mov), [.c (.int .i64 10)], none⟩]) (.ret)) (.skip))) (.seq (.ops false [] [⟨some 5, .p (.mov), [.c (.int .i64 0)], none⟩]) (.block 2 (.loop (.seq (.seq (.ops false [] [⟨some 27, .p (.mov), [.t 5], none⟩, ⟨some 28, .p (.mov), [.t 0], none⟩, ⟨some 29, .p (.lenS), [.t 28], none⟩, ⟨some 30, .p (.binI .lss), [.t 27, .t 29], none⟩]) (.cond (.t 30) (.skip) (.exit 2))) (.seq (.block 3 (.seq (.ops false [] [⟨some 33, .p (.mov), [.t 0], none⟩, ⟨some 34, .p (.mov), [.t 4], none⟩, ⟨some 35, .p (.iaddrS 1), [.t 33, .t 34], none⟩, ⟨some 36, .load 1 false, [.t 35], none⟩, ⟨some 37, .p (.mov), [.t 5], none⟩, ⟨some 38, .p (.iaddrS 1), [.t 36, .t 37], none⟩, ⟨some 39, .load 1 false, [.t 38], none⟩, ⟨some 40, .call 20, [.t 39, .c (.int .i64 0), .c (.int .i64 10000000)], none⟩, ⟨some 41, .p (.notB), [.t 40], none⟩]) (.cond (.t 41) (.seq (.ops false [] [⟨some 42, .p (.mov), [.t 4], none⟩, ⟨some 2, .p (.mov), [.t 42], none⟩, ⟨some 3, .p (.mov), [.c (.int .i64 2)], none⟩]) (.ret)) (.skip)))) (.ops false [] [⟨some 31, .p (.mov), [.t 5], none⟩, ⟨some 32, .p (.binI .add), [.t 31, .c (.int .i64 1)], none⟩, ⟨some 5, .p (.mov), [.t 32], none⟩])))))))) (.ops false [] [⟨some 16, .p (.mov), [.t 4], none⟩, ⟨some 17, .p (.binI .add), [.t 16, .c (.int .i64 1)], none⟩, ⟨some 4, .p (.mov), [.t 17], none⟩])))))) (.seq (.ops false [] [⟨some 2, .p (.mov), [.c (.int .i64 0)], none⟩, ⟨some 3, .p (.mov), [.c (.int .i64 0)], none⟩]) (.ret)))))
theorem c11 : FnC Try.prog 11 43 a11 [.tmp 2, .tmp 3] := ⟨Try.call11, _, _, Try.func11, rfl, by kernel_rfl, by kernel_rfl, rfl⟩
def a21 : AC := .seq (.ops false [] [⟨some 2, .p (.mov), [.c (.int .i64 0)], none⟩]) (.seq (.ops false [] [⟨some 6, .p (.mov), [.t 0], none⟩, ⟨some 7, .call 11, [.t 6], none⟩, ⟨some 5, .p (.mov), [.t 7], none⟩, ⟨some 8, .p (.ext 0), [.t 5], none⟩, ⟨some 9, .p (.ext 1), [.t 5], none⟩, ⟨some 3, .p (.mov), [.t 8], none⟩, ⟨some 4, .p (.mov), [.t 9], none⟩]) (.seq (.ops false [] [⟨some 10, .p (.mov), [.t 4], none⟩, ⟨some 2, .p (.mov), [.t 10], none⟩]) (.ret)))
theorem c21 : FnC Try.prog 21 11 a21 [.tmp 2] := ⟨Try.call21, _, _, Try.func21, rfl, by kernel_rfl, by kernel_rfl, rfl⟩
def a26 : AC := .seq (.ops false [] [⟨some 2, .p (.mov), [.c (.nilslice)], none⟩]) (.seq (.ops false [] [⟨some 8, .bsl 3 1, [], none⟩, ⟨some 9, .bsl 23 1, [.t 8], none⟩, ⟨some 3, .p (.mov), [.t 9], none⟩]) (.seq (.seq (.ops false [] [⟨some 4, .p (.mov), [.c (.int .i64 0)], none⟩]) (.block 0 (.loop (.seq (.seq (.ops false [] [⟨some 10, .p (.mov), [.t 4], none⟩, ⟨some 11, .p (.mov), [.t 0], none⟩, ⟨some 12, .p (.binI .lss), [.t 10, .t 11], none⟩]) (.cond (.t 12) (.skip) (.exit 0))) (.seq (.block 1 (.seq (.ops false [] [⟨some 5, .p (.mov), [.c (.nilslice)], none⟩]) (.seq (.seq (.ops false [] [⟨some 6, .p (.mov), [.c (.int .i64 0)], none⟩]) (.block 2 (.loop (.seq (.seq (.ops false [] [⟨some 15, .p (.mov), [.t 6], none⟩, ⟨some 16, .p (.mov), [.t 3], none⟩, ⟨some 17, .p (.lenS), [.t 16], none⟩, ⟨some 18, .p (.binI .lss), [.t 15, .t 17], none⟩]) (.cond (.t 18) (.skip) (.exit 2))) (.seq (.block 3 (.seq (.ops false [] [⟨some 7, .p (.mov), [.c (.int .i64 0)], none⟩]) (.block 4 (.loop (.seq (.seq (.ops false [] [⟨some 21, .p (.mov), [.t 7], none⟩, ⟨some 22, .p (.mov), [.t 0], none⟩, ⟨some 23, .p (.binI .lss), [.t 21, .t 22], none⟩]) (.cond (.t 23) (.skip) (.exit 4))) (.seq (.block 5 (.seq (.ops false [] [⟨some 26, .p (.mov), [.t 3], none⟩, ⟨some 27, .p (.mov), [.t 6], none⟩, ⟨some 28, .p (.iaddrS 1), [.t 26, .t 27], none⟩, ⟨some 29, .load 1 false, [.t 28], none⟩, ⟨some 30, .p (.mov), [.t 7], none⟩, ⟨some 31, .call 29, [.t 29, .t 30], none⟩, ⟨some 32, .p (.notB), [.t 31], none⟩]) (.cond (.t 32) (.ops false [] [⟨some 33, .p (.mov), [.t 5], none⟩, ⟨some 34, .p (.mov), [.t 3], none⟩, ⟨some 35, .p (.mov), [.t 6], none⟩, ⟨some 36, .p (.iaddrS 1), [.t 34, .t 35], none⟩, ⟨some 37, .load 1 false, [.t 36], none⟩, ⟨some 38, .call 48, [.t 37], none⟩, ⟨some 39, .p (.mov), [.t 7], none⟩, ⟨some 40, .fbs 1, [.t 39], none⟩, ⟨some 41, .app 3 1 8, [.t 38, .t 40], none⟩, ⟨some 42, .fbs 1, [.t 41], none⟩, ⟨some 43, .app 23 1 24, [.t 33, .t 42], none⟩, ⟨some 5, .p (.mov), [.t 43], none⟩]) (.skip)))) (.ops false [] [⟨some 24, .p (.mov), [.t 7], none⟩, ⟨some 25, .p (.binI .add), [.t 24, .c (.int .i64 1)], none⟩, ⟨some 7, .p (.mov), [.t 25], none⟩]))))))) (.ops false [] [⟨some 19, .p (.mov), [.t 6], none⟩, ⟨some 20, .p (.binI .add), [.t 19, .c (.int .i64 1)], none⟩, ⟨some 6, .p (.mov), [.t 20], none⟩])))))) (.ops false [] [⟨some 44, .p (.mov), [.t 5], none⟩, ⟨some 3, .p (.mov), [.t 44], none⟩])))) (.ops false [] [⟨some 13, .p (.mov), [.t 4], none⟩, ⟨some 14, .p (.binI .add), [.t 13, .c (.int .i64 1)], none⟩, ⟨some 4, .p (.mov), [.t 14], none⟩])))))) (.seq (.ops false [] [⟨some 45, .p (.mov), [.t 3], none⟩, ⟨some 2, .p (.mov), [.t 45], none⟩]) (.ret))))
theorem c26 : FnC Try.prog 26 46 a26 [.tmp 2] := ⟨Try.call26, _, _, Try.func26, rfl, by kernel_rfl, by kernel_rfl, rfl⟩
namespace Wa
end Wa
open Go Go.Proofs Eng
set_option maxRecDepth 100000
set_option linter.unusedSimpArgs false
set_option linter.unusedVariables false
namespace Wa
end Wa
open Go Go.Proofs Eng
set_option maxRecDepth 100000
set_option linter.unusedSimpArgs false
set_option linter.unusedVariables false
namespace Wa
end Wa
open Go Go.Proofs Eng
set_option maxRecDepth 100000
set_option linter.unusedSimpArgs false
set_option linter.unusedVariables false
namespace Wa
theorem bad_drop_c {r : L} {j : Nat} (h : j < r.length) : badP (r.drop j) ↔ badN r[j] ∨ badP (r.drop (j + 1)) := by
  unfold badP
  rw [List.drop_eq_getElem_cons h]
  constructor
  · rintro ⟨x, hx, hb⟩
    rcases List.mem_cons.1 hx with rfl | hx
    · exact .inl hb
    · exact .inr ⟨x, hx, hb⟩
  · rintro (hb | ⟨x, hx, hb⟩)
    · exact ⟨_, List.mem_cons_self, hb⟩
    · exact ⟨x, List.mem_cons_of_mem _ hx, hb⟩
theorem roE_len {n : Nat} {r : L} (h : ¬ r.length = n) : roE n r = 10 := by
  rw [roE, unl_f 10 (by omega)]; rfl
theorem roE_bad {n : Nat} {r : L} (h : r.length = n) (hb : badP r) : roE n r = 2 := by
  rw [roE, unl_t 10 (by omega), unl_f 2 (fun q => q hb)]; rfl
theorem roE_ok {n : Nat} {r : L} (h : r.length = n) (hb : ¬ badP r) : roE n r = 0 := by
  rw [roE, unl_t 10 (by omega), unl_t 2 hb]; rfl
def S_rm (m : List L) (k : Nat) : AState := ⟨[.vs (m.map eL), .any, .any, .any, I k, .any, .any, .any, .any, .any, .any, .any, .any, .any, .any, .any, .any, .any, .any, .any, .any, .any, .any, .any, .any, .any, .any, .any, .any, .any, .any, .any, .any, .any, .any, .any, .any, .any, .any, .any, .any, .any, .any], [], 0⟩
def S_rmi (m : List L) (k : Nat) (j : Nat) : AState := ⟨[.vs (m.map eL), .any, .any, .any, I k, I j, .any, .any, .any, .any, .any, .any, .any, .any, .any, .any, .any, .any, .any, .any, .any, .any, .any, .any, .any, .any, .any, .any, .any, .any, .any, .any, .any, .any, .any, .any, .any, .any, .any, .any, .any, .any, .any], [], 0⟩
set_option maxHeartbeats 1000000 in
theorem k_rCheckMatrix (m : List L) (hl : m.length ≤ 1099511627776 ∧ ∀ r ∈ m, r.length ≤ 1099511627776) : FOk P 11 [.vs (m.map eL)] (.tup [I (cmV m).1, I (cmV m).2]) := by
  obtain ⟨hl, hr⟩ := hl
  rw [cmV]
  by_cases h0 : m.length = 0
  · have h0' : ((m.length : Int) = 0) = True := eq_true (by omega)
    have hc : cmE m = 10 := by rw [cmE, unl_f 10 (by omega)]; rfl
    rw [hc, if_neg (by decide)]
    refine c11.fok (by simp only [subs, sub1, free_L]) (Cor.run (addC_good g_Within (noC_good _)) (noHx_good _) hm ?_)
    simp +contextual -implicitDefEqProofs (maxSteps := 2000000) only [bg_eq, a11, List.length_map, h0', ruB, rh_no, Int.reduceLT, Int.reduceLE, Int.reduceAdd, Int.reduceSub, Int.reduceMul, Int.reduceNeg, Int.reduceToNat, Int.reduceEq, Int.reduceNe, Int.reduceTDiv, Int.reduceTMod, implies_true, putL, appN, appX, appC, Eng.Fi, reduceCtorEq, exists_eq_left', exists_eq_left, if_true, if_false, List.replicate, Nat.reduceAdd, Nat.reduceSub, Nat.reduceMul, Nat.reduceLeDiff, Nat.reduceLT, Nat.reduceEqDiff]
  · have h0' : ((m.length : Int) = 0) = False := eq_false (by omega)
    by_cases h6 : 6 < m.length
    · have h6' : ((6 : Int) < (m.length : Int)) = True := eq_true (by omega)
      have hc : cmE m = 8 := by rw [cmE, unl_t 10 (by omega), unl_f 8 (by omega)]; rfl
      rw [hc, if_neg (by decide)]
      refine c11.fok (by simp only [subs, sub1, free_L]) (Cor.run (addC_good g_Within (noC_good _)) (noHx_good _) hm ?_)
      simp +contextual -implicitDefEqProofs (maxSteps := 2000000) only [bg_eq, a11, List.length_map, h0', h6', ruB, rh_no, Int.reduceLT, Int.reduceLE, Int.reduceAdd, Int.reduceSub, Int.reduceMul, Int.reduceNeg, Int.reduceToNat, Int.reduceEq, Int.reduceNe, Int.reduceTDiv, Int.reduceTMod, implies_true, putL, appN, appX, appC, Eng.Fi, reduceCtorEq, exists_eq_left', exists_eq_left, if_true, if_false, List.replicate, Nat.reduceAdd, Nat.reduceSub, Nat.reduceMul, Nat.reduceLeDiff, Nat.reduceLT, Nat.reduceEqDiff]
    · have h6' : ((6 : Int) < (m.length : Int)) = False := eq_false (by omega)
      have hc : cmE m = 0 := by rw [cmE, unl_t 10 (by omega), unl_t 8 (by omega)]; rfl
      rw [if_pos hc]
      refine c11.fok (by simp only [subs, sub1, free_L]) (Cor.run (addC_good g_Within (noC_good _)) (noHx_good _) hm ?_)
      simp +contextual -implicitDefEqProofs (maxSteps := 2000000) only [bg_eq, a11, List.length_map, h0', h6', ruB, rh_no, Int.reduceLT, Int.reduceLE, Int.reduceAdd, Int.reduceSub, Int.reduceMul, Int.reduceNeg, Int.reduceToNat, Int.reduceEq, Int.reduceNe, Int.reduceTDiv, Int.reduceTMod, implies_true, putL, appN, appX, appC, Eng.Fi, reduceCtorEq, exists_eq_left', exists_eq_left, if_true, if_false, List.replicate, Nat.reduceAdd, Nat.reduceSub, Nat.reduceMul, Nat.reduceLeDiff, Nat.reduceLT, Nat.reduceEqDiff]
      refine Cor.lp (addC_good g_Within (noC_good _)) (noHx_good _) hm (S_rm m) (fun k => k ≤ m.length ∧ cmG m.length 0 m = cmG m.length k (m.drop k)) (fun k => m.length - k) (a := 0) ⟨Nat.zero_le _, rfl⟩ (Wkn.keep [0, 4] rfl) ?_
      rintro f k ⟨hk, hf⟩ go
      rcases Nat.lt_or_ge k m.length with h | h
      · have e1 : decide ((k : Int) < (m.length : Int)) = true := lt_t h
        have e2 : (m.map eL)[k]? = some (eL m[k]) := get_e eL m h
        have e3 : IntKind.wrap .i64 ((k : Int) + 1) = ((k + 1 : Nat) : Int) := suc_w (by omega)
        have hrk := hr m[k] (by simp)
        rw [List.drop_eq_getElem_cons h, cmG] at hf
        obtain ⟨r, hre⟩ : ∃ r, m[k] = r := ⟨_, rfl⟩
        rw [hre] at e2 hrk hf
        by_cases c1 : r.length = m.length
        · have c1' : ((r.length : Int) = (m.length : Int)) = True := eq_true (by omega)
          simp +contextual -implicitDefEqProofs (maxSteps := 2000000) only [S_rm, e1, e2, c1', List.length_map, not_true_eq_false, ruB, rh_no, Int.reduceLT, Int.reduceLE, Int.reduceAdd, Int.reduceSub, Int.reduceMul, Int.reduceNeg, Int.reduceToNat, Int.reduceEq, Int.reduceNe, Int.reduceTDiv, Int.reduceTMod, implies_true, putL, appN, appX, appC, Eng.Fi, reduceCtorEq, exists_eq_left', exists_eq_left, if_true, if_false, List.replicate, Nat.reduceAdd, Nat.reduceSub, Nat.reduceMul, Nat.reduceLeDiff, Nat.reduceLT, Nat.reduceEqDiff]
          refine Cor.lp (addC_good g_Within (noC_good _)) (noHx_good _) hm (S_rmi m k) (fun j => j ≤ r.length ∧ (badP r ↔ badP (r.drop j))) (fun j => r.length - j) (a := 0) ⟨Nat.zero_le _, Iff.rfl⟩ (Wkn.keep [0, 4, 5] rfl) ?_
          rintro f2 j ⟨hj, hb⟩ go2
          rcases Nat.lt_or_ge j r.length with h2 | h2
          · have u1 : ((j : Int) < (m.length : Int)) = True := eq_true (by omega)
            have u2 : (r.map eI)[j]? = some (eI r[j]) := get_e eI r h2
            have u3 : IntKind.wrap .i64 ((j : Int) + 1) = ((j + 1 : Nat) : Int) := suc_w (by omega)
            rw [bad_drop_c h2] at hb
            generalize r[j] = x at *
            by_cases c2 : 0 ≤ x ∧ x ≤ 10000000
            · have c2' := eq_true c2
              simp +contextual -implicitDefEqProofs (maxSteps := 2000000) only [S_rmi, u1, u2, u3, e2, c2', x_Within, List.length_map, not_true_eq_false, ruB, rh_no, Int.reduceLT, Int.reduceLE, Int.reduceAdd, Int.reduceSub, Int.reduceMul, Int.reduceNeg, Int.reduceToNat, Int.reduceEq, Int.reduceNe, Int.reduceTDiv, Int.reduceTMod, implies_true, putL, appN, appX, appC, Eng.Fi, reduceCtorEq, exists_eq_left', exists_eq_left, if_true, if_false, List.replicate, Nat.reduceAdd, Nat.reduceSub, Nat.reduceMul, Nat.reduceLeDiff, Nat.reduceLT, Nat.reduceEqDiff]
              exact go2 _ (j + 1) ⟨h2, hb.trans ⟨fun q => q.elim (fun q => absurd c2 q) id, .inr⟩⟩ (by omega) (Wkn.keep [0, 4, 5] rfl)
            · have c2' := eq_false c2
              have hbad : badP r := hb.2 (.inl c2)
              have hro := roE_bad c1 hbad
              rw [hro, if_neg (by decide)] at hf
              rw [hf]
              simp +contextual -implicitDefEqProofs (maxSteps := 2000000) only [S_rmi, u1, u2, u3, e2, c2', x_Within, List.length_map, not_false_eq_true, ruB, rh_no, Int.reduceLT, Int.reduceLE, Int.reduceAdd, Int.reduceSub, Int.reduceMul, Int.reduceNeg, Int.reduceToNat, Int.reduceEq, Int.reduceNe, Int.reduceTDiv, Int.reduceTMod, implies_true, putL, appN, appX, appC, Eng.Fi, reduceCtorEq, exists_eq_left', exists_eq_left, if_true, if_false, List.replicate, Nat.reduceAdd, Nat.reduceSub, Nat.reduceMul, Nat.reduceLeDiff, Nat.reduceLT, Nat.reduceEqDiff]
          · have u1 : ((j : Int) < (m.length : Int)) = False := eq_false (by omega)
            have hnb : ¬ badP r := fun q => by
              have := hb.1 q
              rw [List.drop_eq_nil_of_le h2] at this
              obtain ⟨x, hx, _⟩ := this
              simp at hx
            have hro := roE_ok c1 hnb
            rw [hro, if_pos rfl] at hf
            simp +contextual -implicitDefEqProofs (maxSteps := 2000000) only [S_rmi, u1, e3, List.length_map, ruB, rh_no, Int.reduceLT, Int.reduceLE, Int.reduceAdd, Int.reduceSub, Int.reduceMul, Int.reduceNeg, Int.reduceToNat, Int.reduceEq, Int.reduceNe, Int.reduceTDiv, Int.reduceTMod, implies_true, putL, appN, appX, appC, Eng.Fi, reduceCtorEq, exists_eq_left', exists_eq_left, if_true, if_false, List.replicate, Nat.reduceAdd, Nat.reduceSub, Nat.reduceMul, Nat.reduceLeDiff, Nat.reduceLT, Nat.reduceEqDiff]
            exact go _ (k + 1) ⟨h, hf⟩ (by omega) (Wkn.keep [0, 4] rfl)
        · have c1' : ((r.length : Int) = (m.length : Int)) = False := eq_false (by omega)
          have hro := roE_len c1
          rw [hro, if_neg (by decide)] at hf
          rw [hf]
          simp +contextual -implicitDefEqProofs (maxSteps := 2000000) only [S_rm, e1, e2, c1', List.length_map, not_false_eq_true, ruB, rh_no, Int.reduceLT, Int.reduceLE, Int.reduceAdd, Int.reduceSub, Int.reduceMul, Int.reduceNeg, Int.reduceToNat, Int.reduceEq, Int.reduceNe, Int.reduceTDiv, Int.reduceTMod, implies_true, putL, appN, appX, appC, Eng.Fi, reduceCtorEq, exists_eq_left', exists_eq_left, if_true, if_false, List.replicate, Nat.reduceAdd, Nat.reduceSub, Nat.reduceMul, Nat.reduceLeDiff, Nat.reduceLT, Nat.reduceEqDiff]
      · have e1 : decide ((k : Int) < (m.length : Int)) = false := lt_f h
        rw [List.drop_eq_nil_of_le h, cmG] at hf
        rw [hf]
        simp +contextual -implicitDefEqProofs (maxSteps := 2000000) only [S_rm, e1, List.length_map, ruB, rh_no, Int.reduceLT, Int.reduceLE, Int.reduceAdd, Int.reduceSub, Int.reduceMul, Int.reduceNeg, Int.reduceToNat, Int.reduceEq, Int.reduceNe, Int.reduceTDiv, Int.reduceTMod, implies_true, putL, appN, appX, appC, Eng.Fi, reduceCtorEq, exists_eq_left', exists_eq_left, if_true, if_false, List.replicate, Nat.reduceAdd, Nat.reduceSub, Nat.reduceMul, Nat.reduceLeDiff, Nat.reduceLT, Nat.reduceEqDiff]
def cf_rCheckMatrix : List AV → Option AV
  | [.vs m_v] => onL dL m_v fun m => if m.length ≤ 1099511627776 ∧ ∀ r ∈ m, r.length ≤ 1099511627776 then some (.tup [I (cmV m).1, I (cmV m).2]) else none
  | _ => none
theorem g_rCheckMatrix : Fn P 11 cf_rCheckMatrix := fun args v hh => by
  unfold cf_rCheckMatrix at hh; split at hh
  · obtain ⟨m, rfl, hh1⟩ := onL_inv dL_inv hh
    split at hh1
    · rename_i hc; have hk := Option.some.inj hh1; subst hk; exact k_rCheckMatrix _ hc
    · cases hh1
  · cases hh
theorem x_rCheckMatrix (m : List L) (hc : (m.length ≤ 1099511627776 ∧ ∀ r ∈ m, r.length ≤ 1099511627776) = True) : cf_rCheckMatrix [.vs (m.map eL)] = some (.tup [I (cmV m).1, I (cmV m).2]) := by
  simp only [cf_rCheckMatrix, onL_map dL_e]
  exact if_pos (by rw [hc]; trivial)
theorem k_rMatrixErr (m : List L) (hl : m.length ≤ 1099511627776 ∧ ∀ r ∈ m, r.length ≤ 1099511627776) : FOk P 21 [.vs (m.map eL)] (I (cmV m).2) := by
  have y := x_rCheckMatrix m (by simp only [eq_iff_iff, iff_true]; exact hl)
  refine c21.fok (by simp only [subs, sub1, free_L]) (Cor.run (addC_good g_rCheckMatrix (noC_good _)) (noHx_good _) hm ?_)
  simp +contextual -implicitDefEqProofs (maxSteps := 2000000) only [bg_eq, a21, y, ruB, rh_no, Int.reduceLT, Int.reduceLE, Int.reduceAdd, Int.reduceSub, Int.reduceMul, Int.reduceNeg, Int.reduceToNat, Int.reduceEq, Int.reduceNe, Int.reduceTDiv, Int.reduceTMod, implies_true, putL, appN, appX, appC, Eng.Fi, reduceCtorEq, exists_eq_left', exists_eq_left, if_true, if_false, List.replicate, Nat.reduceAdd, Nat.reduceSub, Nat.reduceMul, Nat.reduceLeDiff, Nat.reduceLT, Nat.reduceEqDiff]
def cf_rMatrixErr : List AV → Option AV
  | [.vs m_v] => onL dL m_v fun m => if m.length ≤ 1099511627776 ∧ ∀ r ∈ m, r.length ≤ 1099511627776 then some (I (cmV m).2) else none
  | _ => none
theorem g_rMatrixErr : Fn P 21 cf_rMatrixErr := fun args v hh => by
  unfold cf_rMatrixErr at hh; split at hh
  · obtain ⟨m, rfl, hh1⟩ := onL_inv dL_inv hh
    split at hh1
    · rename_i hc; have hk := Option.some.inj hh1; subst hk; exact k_rMatrixErr _ hc
    · cases hh1
  · cases hh
theorem x_rMatrixErr (m : List L) (hc : (m.length ≤ 1099511627776 ∧ ∀ r ∈ m, r.length ≤ 1099511627776) = True) : cf_rMatrixErr [.vs (m.map eL)] = some (I (cmV m).2) := by
  simp only [cf_rMatrixErr, onL_map dL_e]
  exact if_pos (by rw [hc]; trivial)
end Wa
open Go Go.Proofs Eng
set_option maxRecDepth 100000
set_option linter.unusedSimpArgs false
set_option linter.unusedVariables false
namespace Wa
def extK (p : L) (k : Nat) : List L := if ((k : Nat) : Int) ∈ p then [] else [p ++ [((k : Nat) : Int)]]
def extP (p : L) (j : Nat) : List L := (List.range j).flatMap (extK p)
def extA (N : Nat) (A : List L) : List L := A.flatMap fun p => extP p N
theorem extP_s (p : L) (j : Nat) : extP p (j + 1) = extP p j ++ extK p j := by
  unfold extP; rw [List.range_succ, List.flatMap_append]; simp
theorem extP_len (p : L) : ∀ j, (extP p j).length ≤ j
  | 0 => by simp [extP]
  | j + 1 => by
    have := extP_len p j
    rw [extP_s, List.length_append]
    have h2 : (extK p j).length ≤ 1 := by unfold extK; split <;> simp
    omega
theorem extP_perm (N f : Nat) (p : L) : (extP p N).flatMap (permG N f) = permG N (f + 1) p := by
  rw [permG]
  unfold extP
  rw [List.flatMap_assoc]
  congr 1
  funext k
  unfold extK
  split <;> simp
theorem extA_perm (N f : Nat) (A : List L) : (extA N A).flatMap (permG N f) = A.flatMap (permG N (f + 1)) := by
  unfold extA
  rw [List.flatMap_assoc]
  congr 1
  funext p
  exact extP_perm N f p
theorem extA_s (N : Nat) {A : List L} {i : Nat} (h : i < A.length) : extA N (A.take (i + 1)) = extA N (A.take i) ++ extP A[i] N := by
  unfold extA
  rw [List.take_succ_eq_append_getElem h, List.flatMap_append]; simp
theorem extA_len (N : Nat) : ∀ A : List L, (extA N A).length ≤ N * A.length
  | [] => by simp [extA]
  | p :: A => by
    have h1 := extA_len N A
    have h2 := extP_len p N
    have e : extA N (p :: A) = extP p N ++ extA N A := rfl
    rw [e, List.length_append, List.length_cons, Nat.mul_add, Nat.mul_one]
    omega
theorem extA_row {N k : Nat} {A : List L} (h : ∀ p ∈ A, p.length = k) : ∀ p ∈ extA N A, p.length = k + 1 := fun p hp => by
  obtain ⟨q, hq, hp⟩ := List.mem_flatMap.1 hp
  obtain ⟨j, _, hp⟩ := List.mem_flatMap.1 hp
  unfold extK at hp
  split at hp
  · simp at hp
  · rw [List.mem_singleton.1 hp, List.length_append, h q hq]; rfl
theorem perm_0 (N : Nat) : ∀ A : List L, A.flatMap (permG N 0) = A
  | [] => rfl
  | p :: A => by
    rw [List.flatMap_cons, perm_0 N A, permG]; rfl
theorem l_CopyInts (l : L) (hl : l.length ≤ 1000) : ∃ n', LOk P 48 [.vs (l.map eI)] [] 0 (.slice 0 1 0 (l.map eI).length) [⟨0, 0, .rows 3 1 (l.map eI)⟩] n' := by
  refine ⟨1, ?_⟩
  have m1 : (l.length ≤ maxLen) = True := mx (by omega)
  have m2 : (l.length * 8 ≤ 140737488355328) = True := by simp only [eq_iff_iff, iff_true]; omega
  have m3 : (l.map eI).all (fun v => decide (v.cells.length = 1)) = true := by simp [List.all_map, AV.cells]
  refine c48.lok (Cor.post (Cor.run (noC_good _) (noHx_good _) hm ?_))
  simp +contextual -implicitDefEqProofs (maxSteps := 2000000) only [bg_eq, a48, List.length_map, m1, m2, m3, rs_nil, rs_t, rs_f, ag_nils, ag_sl, ag_vs, ag_str, ag_ptr, ag_nilp, ag_vp, ag_fun, FinL, ruH, ruB, Int.reduceLT, Int.reduceLE, Int.reduceAdd, Int.reduceSub, Int.reduceMul, Int.reduceNeg, Int.reduceToNat, Int.reduceEq, Int.reduceNe, Int.reduceTDiv, Int.reduceTMod, implies_true, putL, appN, appX, appC, Eng.Fi, reduceCtorEq, exists_eq_left', exists_eq_left, if_true, if_false, List.replicate, Nat.reduceAdd, Nat.reduceSub, Nat.reduceMul, Nat.reduceLeDiff, Nat.reduceLT, Nat.reduceEqDiff]
  exact ⟨⟨[.any, .any, .slice 0 1 0 l.length, .any, .any, .any], [⟨0, 0, .rows 3 1 (l.map eI)⟩], 1⟩, Wkn.to ⟨0, [(1, 0)], [], 1, [2]⟩ rfl rfl (by simp [Wk.st, keepT, memN, Wk.fate, Wk.fate0, assoc, getE, Wk.hp, ABlk.sub, sub1, subs, free_I]), _, rfl, rfl, by simp, rfl⟩
def ciC : List AV → Option (List AV)
  | [.vs us] => match decL decI us with
    | some l => if l.length ≤ 1000 then some (l.map eI) else none
    | none => none
  | _ => none
theorem lay_CopyInts : LayS P 48 3 1 ciC := fun args xs h => by
  unfold ciC at h
  split at h
  · rename_i us
    split at h
    · rename_i l hl
      split at h
      · rename_i hc
        have h := Option.some.inj h
        subst h
        rw [decL_inv decI eI (fun v x => decI_inv) hl]
        exact ⟨l_CopyInts l hc, by simp only [subs, sub1, free_I], free_I _ _⟩
      · cases h
    · cases h
  · cases h
def h_ci : List AV → List HEnt → Nat → Option (AV × List HEnt × Nat) := layHs 3 1 ciC
theorem hn_ci : Hn P 48 h_ci := lay_CopyInts.hn
theorem y_ci (l : L) (h : l.length ≤ 1000) (H : List HEnt) (nx : Nat) : h_ci [.vs (l.map eI)] H nx = some (.slice nx 1 0 l.length, ⟨nx, nx, .rows 3 1 (l.map eI)⟩ :: H, nx + 1) := by
  have hc : ciC [.vs (l.map eI)] = some (l.map eI) := by
    show (match decL decI (l.map eI) with | some l => if l.length ≤ 1000 then some (l.map eI) else none | none => none) = _
    rw [decL_map decI eI decI_I l]
    exact if_pos h
  have := yS_h hc 3 1 H nx
  rw [List.length_map] at this
  exact this
theorem tk_L (l : List L) : (l.map eL).take l.length = l.map eL := by rw [List.take_of_length_le]; simp
theorem tk_I (l : L) : (l.map eI).take (l.length + 1) = l.map eI := by rw [List.take_of_length_le]; simp
def S_aa (N : Nat) (A : List L) (k : Nat) : AState := ⟨[I N, .any, .any, .vs (A.map eL), I k, .any, .any, .any, .any, .any, .any, .any, .any, .any, .any, .any, .any, .any, .any, .any, .any, .any, .any, .any, .any, .any, .any, .any, .any, .any, .any, .any, .any, .any, .any, .any, .any, .any, .any, .any, .any, .any, .any, .any, .any, .any], [], 0⟩
def S_ab (N : Nat) (A : List L) (k : Nat) (out : List L) (i : Nat) : AState := ⟨[I N, .any, .any, .vs (A.map eL), I k, gA 0 1 (out.map eL), I i, .any, .any, .any, .any, .any, .any, .any, .any, .any, .any, .any, .any, .any, .any, .any, .any, .any, .any, .any, .any, .any, .any, .any, .any, .any, .any, .any, .any, .any, .any, .any, .any, .any, .any, .any, .any, .any, .any, .any], gH 0 23 1 (out.map eL), 1⟩
def S_ac (N : Nat) (A : List L) (k : Nat) (i : Nat) (out : List L) (j : Nat) : AState := ⟨[I N, .any, .any, .vs (A.map eL), I k, gA 0 1 (out.map eL), I i, I j, .any, .any, .any, .any, .any, .any, .any, .any, .any, .any, .any, .any, .any, .any, .any, .any, .any, .any, .any, .any, .any, .any, .any, .any, .any, .any, .any, .any, .any, .any, .any, .any, .any, .any, .any, .any, .any, .any], gH 0 23 1 (out.map eL), 1⟩
set_option maxHeartbeats 4000000 in
theorem k_Assign0 (N : Nat) (hN : N ≤ 6) : FOk P 26 [I N] (.vs ((permG N N []).map eL)) := by
  have hg := addH_good hn_ci (noHx_good P)
  refine c26.fok (y := YH P (addH 48 h_ci noHx)) rfl (Cor.run (addC_good g_Has (noC_good _)) hg hm ?_) (fun G => YH_add (by decide) (YH_no _ G))
  simp +contextual -implicitDefEqProofs (maxSteps := 2000000) only [bg_eq, a26, Int.natCast_zero, Int.natCast_one, ruH, ruB, Int.reduceLT, Int.reduceLE, Int.reduceAdd, Int.reduceSub, Int.reduceMul, Int.reduceNeg, Int.reduceToNat, Int.reduceEq, Int.reduceNe, Int.reduceTDiv, Int.reduceTMod, implies_true, putL, appN, appX, appC, Eng.Fi, reduceCtorEq, exists_eq_left', exists_eq_left, if_true, if_false, List.replicate, Nat.reduceAdd, Nat.reduceSub, Nat.reduceMul, Nat.reduceLeDiff, Nat.reduceLT, Nat.reduceEqDiff]
  refine Cor.lp (addC_good g_Has (noC_good _)) hg hm (fun q : Nat × List L => S_aa N q.2 q.1) (fun q => q.1 ≤ N ∧ q.2.flatMap (permG N (N - q.1)) = permG N N [] ∧ (∀ p ∈ q.2, p.length = q.1) ∧ q.2.length ≤ 6 ^ q.1) (fun q => N - q.1) (a := (0, [[]])) ⟨Nat.zero_le _, by simp, by simp, by simp⟩ ?_ ?_
  · exact Wkn.trans (s2 := ⟨[I N, .any, .any, .slice 0 1 0 1, I 0, .any, .any, .any, .any, .any, .any, .any, .any, .any, .any, .any, .any, .any, .any, .any, .any, .any, .any, .any, .any, .any, .any, .any, .any, .any, .any, .any, .any, .any, .any, .any, .any, .any, .any, .any, .any, .any, .any, .any, .any, .any], [⟨0, 0, .rows 23 1 [.vs []]⟩], 1⟩) (Wkn.to ⟨0, [(1, 0)], [0], 1, [0, 3, 4]⟩ rfl rfl (by simp [Wk.st, keepT, memN, Wk.fate, Wk.fate0, assoc, getE, Wk.hp, ABlk.sub, sub1, subs])) (Wkn.to ⟨0, [], [0], 0, [0, 3, 4]⟩ rfl rfl (by simp [Wk.st, keepT, memN, Wk.fate, Wk.fate0, assoc, getE, Wk.hp, ABlk.sub, sub1, subs, S_aa]))
  rintro f ⟨k, A⟩ ⟨hk, hA, hrow, hlen⟩ go
  simp only at hk hA hrow hlen go ⊢
  have h6 : (6 : Nat) ^ k ≤ 46656 := Nat.le_trans (Nat.pow_le_pow_right (by decide) (Nat.le_trans hk hN)) (by decide)
  have hAl : A.length ≤ 46656 := Nat.le_trans hlen h6
  rcases Nat.lt_or_ge k N with hlt | hge
  · have e1 : ((k : Int) < (N : Int)) = True := eq_true (by omega)
    have e3 : IntKind.wrap .i64 ((k : Int) + 1) = ((k + 1 : Nat) : Int) := suc_w (by omega)
    have hgo := fun s' (hw : Wkn 0 s' (S_aa N (extA N A) (k + 1))) => go s' (k + 1, extA N A) ⟨hlt, by
      show (extA N A).flatMap (permG N (N - (k + 1))) = _
      rw [extA_perm, show N - (k + 1) + 1 = N - k by omega]; exact hA, extA_row hrow, by
      have := extA_len N A
      have h2 : N * A.length ≤ 6 * 6 ^ k := Nat.mul_le_mul hN hlen
      have h3 : (6 : Nat) ^ (k + 1) = 6 * 6 ^ k := by rw [Nat.pow_succ, Nat.mul_comm]
      show (extA N A).length ≤ 6 ^ (k + 1)
      omega⟩ (by simp only; omega) hw
    clear go
    simp +contextual -implicitDefEqProofs (maxSteps := 2000000) only [S_aa, e1, Int.natCast_zero, ruH, ruB, Int.reduceLT, Int.reduceLE, Int.reduceAdd, Int.reduceSub, Int.reduceMul, Int.reduceNeg, Int.reduceToNat, Int.reduceEq, Int.reduceNe, Int.reduceTDiv, Int.reduceTMod, implies_true, putL, appN, appX, appC, Eng.Fi, reduceCtorEq, exists_eq_left', exists_eq_left, if_true, if_false, List.replicate, Nat.reduceAdd, Nat.reduceSub, Nat.reduceMul, Nat.reduceLeDiff, Nat.reduceLT, Nat.reduceEqDiff]
    refine Cor.lp (addC_good g_Has (noC_good _)) hg hm (fun q : Nat × List L => S_ab N A k q.2 q.1) (fun q => q.1 ≤ A.length ∧ q.2 = extA N (A.take q.1)) (fun q => A.length - q.1) (a := (0, [])) ⟨Nat.zero_le _, by simp [extA]⟩ (Wkn.to ⟨0, [], [], 1, [0, 3, 4, 5, 6]⟩ rfl rfl (by simp [Wk.st, keepT, memN, Wk.fate, Wk.fate0, assoc, getE, Wk.hp, ABlk.sub, sub1, subs, S_ab, gA, gH, free_L])) ?_
    rintro f2 ⟨i, out⟩ ⟨hi, hout⟩ go2
    simp only at hi hout go2 ⊢
    have hol : out.length ≤ 6 * A.length := by
      have h1 := extA_len N (A.take i)
      have h2 : N * (A.take i).length ≤ 6 * A.length := Nat.mul_le_mul hN (by simp; omega)
      rw [hout]; omega
    have hfo := fun φ => free_L φ out
    rcases Nat.lt_or_ge i A.length with hlt2 | hge2
    · have q1 : ((i : Int) < (A.length : Int)) = True := eq_true (by omega)
      have q2 : (A.map eL)[i]? = some (eL A[i]) := get_e eL A hlt2
      have q3 : IntKind.wrap .i64 ((i : Int) + 1) = ((i + 1 : Nat) : Int) := suc_w (by omega)
      have hext := extA_s N hlt2
      have hpl := hrow A[i] (by simp)
      obtain ⟨p, hpe⟩ : ∃ p, A[i] = p := ⟨_, rfl⟩
      rw [hpe] at q2 hext hpl
      have v1 := fun j : Nat => x_Has p j (by simp only [eq_iff_iff, iff_true]; omega)
      have v2 := y_ci p (by omega)
      simp +contextual -implicitDefEqProofs (maxSteps := 2000000) only [S_ab, q1, List.length_map, Int.natCast_zero, ruH, ruB, Int.reduceLT, Int.reduceLE, Int.reduceAdd, Int.reduceSub, Int.reduceMul, Int.reduceNeg, Int.reduceToNat, Int.reduceEq, Int.reduceNe, Int.reduceTDiv, Int.reduceTMod, implies_true, putL, appN, appX, appC, Eng.Fi, reduceCtorEq, exists_eq_left', exists_eq_left, if_true, if_false, List.replicate, Nat.reduceAdd, Nat.reduceSub, Nat.reduceMul, Nat.reduceLeDiff, Nat.reduceLT, Nat.reduceEqDiff]
      refine Cor.lp (addC_good g_Has (noC_good _)) hg hm (fun q : Nat × List L => S_ac N A k i q.2 q.1) (fun q => q.1 ≤ N ∧ q.2 = out ++ extP p q.1) (fun q => N - q.1) (a := (0, out)) ⟨Nat.zero_le _, by simp [extP]⟩ (Wkn.keep [0, 3, 4, 5, 6, 7] rfl) ?_
      rintro f3 ⟨j, o⟩ ⟨hj, ho⟩ go3
      simp only at hj ho go3 ⊢
      have hel := extP_len p j
      have hoo : o.length ≤ out.length + j := by rw [ho, List.length_append]; omega
      rcases Nat.lt_or_ge j N with hlt3 | hge3
      · have u1 : ((j : Int) < (N : Int)) = True := eq_true (by omega)
        have u3 : IntKind.wrap .i64 ((j : Int) + 1) = ((j + 1 : Nat) : Int) := suc_w (by omega)
        have hes := extP_s p j
        have v1 := v1 j
        by_cases hm1 : (j : Int) ∈ p
        · have hm1' := eq_true hm1
          rw [extK, if_pos hm1, List.append_nil] at hes
          simp +contextual -implicitDefEqProofs (maxSteps := 2000000) only [S_ac, u1, u3, q2, v1, hm1', List.length_map, not_true_eq_false, ruH, ruB, Int.reduceLT, Int.reduceLE, Int.reduceAdd, Int.reduceSub, Int.reduceMul, Int.reduceNeg, Int.reduceToNat, Int.reduceEq, Int.reduceNe, Int.reduceTDiv, Int.reduceTMod, implies_true, putL, appN, appX, appC, Eng.Fi, reduceCtorEq, exists_eq_left', exists_eq_left, if_true, if_false, List.replicate, Nat.reduceAdd, Nat.reduceSub, Nat.reduceMul, Nat.reduceLeDiff, Nat.reduceLT, Nat.reduceEqDiff]
          exact go3 _ (j + 1, o) ⟨hlt3, by rw [hes]; exact ho⟩ (by simp only; omega) (Wkn.keep [0, 3, 4, 5, 6, 7] rfl)
        · have hm1' := eq_false hm1
          rw [extK, if_neg hm1] at hes
          have hn : o ++ [p ++ [(j : Int)]] = out ++ extP p (j + 1) := by rw [hes, ho, List.append_assoc]
          have m1 : (o.length + 1 ≤ maxLen) = True := eq_true (Nat.le_trans (show o.length + 1 ≤ 1000000 by omega) (by decide))
          have m2 : ((o.length + 1) * 24 ≤ 140737488355328) = True := by simp only [eq_iff_iff, iff_true]; omega
          have m3 : (p.length + 1 ≤ maxLen) = True := mx (by omega)
          have m4 : ((p.length + 1) * 8 ≤ 140737488355328) = True := by simp only [eq_iff_iff, iff_true]; omega
          have hfo := fun φ => free_L φ o
          have hfp := fun φ => free_I φ p
          have tp : (p.map eI).take p.length = p.map eI := by rw [List.take_of_length_le]; simp
          cases o with
          | nil =>
            simp only [List.map_cons, List.map_nil, subs, List.cons.injEq] at hfo
            simp only [List.length_nil, List.length_cons, Nat.zero_add] at m1 m2
            simp +contextual -implicitDefEqProofs (maxSteps := 2000000) only [S_ac, gA, gH, u1, u3, q2, v1, v2, hm1', rs_nil, rs_t, rs_f, ag_nils, ag_sl, ag_vs, ag_str, ag_ptr, ag_nilp, ag_vp, ag_fun, m1, m2, m3, m4, tp, Nat.le_refl, List.length_map, List.map_cons, List.map_nil, not_true_eq_false, not_false_eq_true, ruH, ruB, Int.reduceLT, Int.reduceLE, Int.reduceAdd, Int.reduceSub, Int.reduceMul, Int.reduceNeg, Int.reduceToNat, Int.reduceEq, Int.reduceNe, Int.reduceTDiv, Int.reduceTMod, implies_true, putL, appN, appX, appC, Eng.Fi, reduceCtorEq, exists_eq_left', exists_eq_left, if_true, if_false, List.replicate, Nat.reduceAdd, Nat.reduceSub, Nat.reduceMul, Nat.reduceLeDiff, Nat.reduceLT, Nat.reduceEqDiff]
            exact go3 _ (j + 1, [] ++ [p ++ [(j : Int)]]) ⟨hlt3, hn⟩ (by simp only; omega) (Wkn.to ⟨0, [(3, 0)], [2], 1, [0, 3, 4, 5, 6, 7]⟩ rfl rfl (by simp [Wk.st, keepT, memN, Wk.fate, Wk.fate0, assoc, getE, Wk.hp, ABlk.sub, sub1, subs, S_ac, gA, gH, hfo, hfp, free_L, free_I, subs_append, List.take_append, tk_I]))
            
          | cons z0 zr =>
            simp only [List.map_cons, List.map_nil, subs, List.cons.injEq] at hfo
            simp only [List.length_nil, List.length_cons, Nat.zero_add] at m1 m2
            simp +contextual -implicitDefEqProofs (maxSteps := 2000000) only [S_ac, gA, gH, u1, u3, q2, v1, v2, hm1', rs_nil, rs_t, rs_f, ag_nils, ag_sl, ag_vs, ag_str, ag_ptr, ag_nilp, ag_vp, ag_fun, m1, m2, m3, m4, tp, Nat.le_refl, List.length_map, List.map_cons, List.map_nil, not_true_eq_false, not_false_eq_true, ruH, ruB, Int.reduceLT, Int.reduceLE, Int.reduceAdd, Int.reduceSub, Int.reduceMul, Int.reduceNeg, Int.reduceToNat, Int.reduceEq, Int.reduceNe, Int.reduceTDiv, Int.reduceTMod, implies_true, putL, appN, appX, appC, Eng.Fi, reduceCtorEq, exists_eq_left', exists_eq_left, if_true, if_false, List.replicate, Nat.reduceAdd, Nat.reduceSub, Nat.reduceMul, Nat.reduceLeDiff, Nat.reduceLT, Nat.reduceEqDiff]
            exact go3 _ (j + 1, (z0 :: zr) ++ [p ++ [(j : Int)]]) ⟨hlt3, hn⟩ (by simp only; omega) (Wkn.to ⟨0, [(3, 0)], [2], 1, [0, 3, 4, 5, 6, 7]⟩ rfl rfl (by simp [Wk.st, keepT, memN, Wk.fate, Wk.fate0, assoc, getE, Wk.hp, ABlk.sub, sub1, subs, S_ac, gA, gH, hfo, hfp, free_L, free_I, subs_append, List.take_append, tk_I]))
            
      · have u1 : ((j : Int) < (N : Int)) = False := eq_false (by omega)
        have hjN : j = N := by omega
        subst hjN
        simp +contextual -implicitDefEqProofs (maxSteps := 2000000) only [S_ac, u1, q3, ruH, ruB, Int.reduceLT, Int.reduceLE, Int.reduceAdd, Int.reduceSub, Int.reduceMul, Int.reduceNeg, Int.reduceToNat, Int.reduceEq, Int.reduceNe, Int.reduceTDiv, Int.reduceTMod, implies_true, putL, appN, appX, appC, Eng.Fi, reduceCtorEq, exists_eq_left', exists_eq_left, if_true, if_false, List.replicate, Nat.reduceAdd, Nat.reduceSub, Nat.reduceMul, Nat.reduceLeDiff, Nat.reduceLT, Nat.reduceEqDiff]
        exact go2 _ (i + 1, o) ⟨hlt2, by rw [hext, ← hout]; exact ho⟩ (by simp only; omega) (Wkn.keep [0, 3, 4, 5, 6] rfl)
    · have q1 : ((i : Int) < (A.length : Int)) = False := eq_false (by omega)
      rw [List.take_of_length_le hge2] at hout
      simp +contextual -implicitDefEqProofs (maxSteps := 2000000) only [S_ab, q1, e3, List.length_map, ruH, ruB, Int.reduceLT, Int.reduceLE, Int.reduceAdd, Int.reduceSub, Int.reduceMul, Int.reduceNeg, Int.reduceToNat, Int.reduceEq, Int.reduceNe, Int.reduceTDiv, Int.reduceTMod, implies_true, putL, appN, appX, appC, Eng.Fi, reduceCtorEq, exists_eq_left', exists_eq_left, if_true, if_false, List.replicate, Nat.reduceAdd, Nat.reduceSub, Nat.reduceMul, Nat.reduceLeDiff, Nat.reduceLT, Nat.reduceEqDiff]
      refine hgo _ ?_
      rw [← hout]
      have hne : out ≠ [] := fun e => by
        have h1 := extA_perm N (N - (k + 1)) A
        rw [show N - (k + 1) + 1 = N - k by omega, hA, ← hout, e] at h1
        exact perm_ne N h1.symm
      cases out with
      | nil => exact absurd rfl hne
      | cons z0 zr =>
        simp only [List.map_cons, List.map_nil, subs, List.cons.injEq] at hfo
        exact Wkn.to ⟨0, [], [0], 0, [0, 3, 4]⟩ rfl rfl (by simp [Wk.st, keepT, memN, Wk.fate, Wk.fate0, assoc, getE, Wk.hp, ABlk.sub, sub1, subs, S_aa, gA, gH, hfo, free_L, free_I, tk_L])
  · have e1 : ((k : Int) < (N : Int)) = False := eq_false (by omega)
    have hkn : N - k = 0 := by omega
    rw [hkn, perm_0] at hA
    simp +contextual -implicitDefEqProofs (maxSteps := 2000000) only [S_aa, e1, hA, free_L, ruH, ruB, Int.reduceLT, Int.reduceLE, Int.reduceAdd, Int.reduceSub, Int.reduceMul, Int.reduceNeg, Int.reduceToNat, Int.reduceEq, Int.reduceNe, Int.reduceTDiv, Int.reduceTMod, implies_true, putL, appN, appX, appC, Eng.Fi, reduceCtorEq, exists_eq_left', exists_eq_left, if_true, if_false, List.replicate, Nat.reduceAdd, Nat.reduceSub, Nat.reduceMul, Nat.reduceLeDiff, Nat.reduceLT, Nat.reduceEqDiff]
theorem k_Assignments (N : Int) (h : 0 ≤ N ∧ N ≤ 6) : FOk P 26 [I N] (.vs ((permG N.toNat N.toNat []).map eL)) := by
  have := k_Assign0 N.toNat (by omega)
  rwa [Int.toNat_of_nonneg h.1] at this
def cf_Assignments : List AV → Option AV
  | [.int .i64 N] => if 0 ≤ N ∧ N ≤ 6 then some (.vs ((permG N.toNat N.toNat []).map eL)) else none
  | _ => none
theorem g_Assignments : Fn P 26 cf_Assignments := fun args v hh => by
  unfold cf_Assignments at hh; split at hh
  · split at hh
    · rename_i hc; have hk := Option.some.inj hh; subst hk; exact k_Assignments _ hc
    · cases hh
  · cases hh
theorem x_Assignments (N : Int) (hc : (0 ≤ N ∧ N ≤ 6) = True) : cf_Assignments [.int .i64 N] = some (.vs ((permG N.toNat N.toNat []).map eL)) := by
  exact if_pos (by rw [hc]; trivial)
end Wa
