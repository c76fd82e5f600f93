import Derived.Test.YtjfhhaaogcgkpaaEngS9
import Derived.Test.YtjfhhaaogcgkpaaC33
open Go Go.Proofs Eng
set_option maxRecDepth 100000
set_option linter.unusedSimpArgs false
set_option linter.unusedVariables false
def a63 : AC := .seq (.ops false [] [⟨some 4, .p (.mov), [.c (.nilslice)], none⟩, ⟨some 5, .p (.mov), [.c (.int .i64 0)], none⟩]) (.seq (.seq (.ops false [] [⟨some 10, .p (.mov), [.t 0], none⟩, ⟨some 11, .call 97, [.t 10], none⟩, ⟨some 12, .p (.mov), [.t 1], none⟩, ⟨some 13, .call 107, [.t 12, .c (.int .i64 1), .c (.int .i64 20000)], none⟩, ⟨some 14, .call 85, [.t 13, .c (.int .i64 2)], none⟩, ⟨some 15, .fbs 1, [.t 11, .t 14], none⟩, ⟨some 16, .call 84, [.t 15], none⟩, ⟨some 6, .p (.mov), [.t 16], none⟩]) (.seq (.ops false [] [⟨some 17, .p (.mov), [.t 6], none⟩, ⟨some 18, .p (.binI .neq), [.t 17, .c (.int .i64 0)], none⟩]) (.cond (.t 18) (.seq (.ops false [] [⟨some 19, .p (.mov), [.t 6], none⟩, ⟨some 4, .p (.mov), [.c (.nilslice)], none⟩, ⟨some 5, .p (.mov), [.t 19], none⟩]) (.ret)) (.skip)))) (.seq (.ops false [] [⟨some 7, .p (.mov), [.c (.nilslice)], none⟩]) (.seq (.seq (.ops false [] [⟨some 8, .p (.mov), [.c (.int .i64 1)], none⟩]) (.block 0 (.loop (.seq (.seq (.ops false [] [⟨some 20, .p (.mov), [.t 8], none⟩, ⟨some 21, .p (.mov), [.t 0], none⟩, ⟨some 22, .p (.lenS), [.t 21], none⟩, ⟨some 23, .p (.binI .lss), [.t 20, .t 22], none⟩]) (.cond (.t 23) (.skip) (.exit 0))) (.seq (.block 1 (.seq (.seq (.ops true [] [⟨some 26, .p (.mov), [.t 0], none⟩, ⟨some 27, .p (.mov), [.t 8], none⟩, ⟨some 28, .p (.binI .sub), [.t 27, .c (.int .i64 1)], none⟩, ⟨some 29, .p (.iaddrS 3), [.t 26, .t 28], none⟩, ⟨some 30, .load 3 true, [.t 29], none⟩, ⟨some 31, .p (.mov), [.t 0], none⟩, ⟨some 32, .p (.mov), [.t 8], none⟩, ⟨some 33, .p (.iaddrS 3), [.t 31, .t 32], none⟩, ⟨some 34, .load 3 true, [.t 33], none⟩, ⟨some 35, .call 117, [.t 30, .t 34], none⟩, ⟨some 36, .p (.field 0 1 false), [.t 35], none⟩, ⟨some 37, .p (.mov), [.t 1], none⟩, ⟨some 38, .p (.binI .lss), [.t 36, .t 37], none⟩]) (.cond (.t 38) (.exit 1) (.skip))) (.seq (.ops false [] [⟨some 39, .p (.mov), [.t 7], none⟩, ⟨some 40, .p (.lenS), [.t 39], none⟩, ⟨some 9, .p (.mov), [.t 40], none⟩]) (.seq (.ops false [] [⟨some 41, .p (.mov), [.t 9], none⟩, ⟨some 42, .p (.binI .gtr), [.t 41, .c (.int .i64 0)], none⟩, ⟨some 43, .p (.mov), [.t 42], none⟩, ⟨some 44, .p (.mov), [.t 7], some (43, true)⟩, ⟨some 45, .p (.mov), [.t 9], some (43, true)⟩, ⟨some 46, .p (.binI .sub), [.t 45, .c (.int .i64 1)], some (43, true)⟩, ⟨some 47, .p (.iaddrS 2), [.t 44, .t 46], some (43, true)⟩, ⟨some 48, .p (.faddr 1), [.t 47], some (43, true)⟩, ⟨some 49, .load 1 false, [.t 48], some (43, true)⟩, ⟨some 50, .p (.mov), [.t 8], some (43, true)⟩, ⟨some 51, .p (.binI .sub), [.t 50, .c (.int .i64 1)], some (43, true)⟩, ⟨some 52, .p (.binI .eql), [.t 49, .t 51], some (43, true)⟩, ⟨some 53, .p (.pick), [.t 43, .t 52, .c (.bool false)], none⟩]) (.cond (.t 53) (.ops false [] [⟨some 54, .p (.mov), [.t 7], none⟩, ⟨some 55, .p (.mov), [.t 9], none⟩, ⟨some 56, .p (.binI .sub), [.t 55, .c (.int .i64 1)], none⟩, ⟨some 57, .p (.mov), [.t 8], none⟩, ⟨some 58, .p (.iaddrS 2), [.t 54, .t 56], none⟩, ⟨some 59, .p (.faddr 1), [.t 58], none⟩, ⟨none, .store 1 false, [.t 59, .t 57], none⟩]) (.ops false [] [⟨some 60, .p (.mov), [.t 7], none⟩, ⟨some 61, .p (.mov), [.t 8], none⟩, ⟨some 62, .p (.binI .sub), [.t 61, .c (.int .i64 1)], none⟩, ⟨some 63, .p (.mov), [.t 8], none⟩, ⟨some 64, .p (.build [.int .i64 0, .int .i64 0] [(0, 1), (1, 1)]), [.t 62, .t 63], none⟩, ⟨some 65, .fbs 2, [.t 64], none⟩, ⟨some 66, .app 64 2 16, [.t 60, .t 65], none⟩, ⟨some 7, .p (.mov), [.t 66], none⟩])))))) (.ops false [] [⟨some 24, .p (.mov), [.t 8], none⟩, ⟨some 25, .p (.binI .add), [.t 24, .c (.int .i64 1)], none⟩, ⟨some 8, .p (.mov), [.t 25], none⟩])))))) (.seq (.ops false [] [⟨some 67, .p (.mov), [.t 7], none⟩, ⟨some 4, .p (.mov), [.t 67], none⟩, ⟨some 5, .p (.mov), [.c (.int .i64 0)], none⟩]) (.ret)))))
theorem c63 : FnC Try.prog 63 68 a63 [.tmp 4, .tmp 5] := ⟨Try.call63, _, _, Try.func63, rfl, by kernel_rfl, by kernel_rfl, rfl⟩
def a68 : AC := .seq (.ops false [] [⟨some 4, .p (.mov), [.c (.nilslice)], none⟩]) (.seq (.ops false [] [⟨some 5, .p (.mov), [.c (.nilslice)], none⟩]) (.seq (.seq (.ops false [] [⟨some 6, .p (.mov), [.c (.int .i64 1)], none⟩]) (.block 0 (.loop (.seq (.seq (.ops false [] [⟨some 8, .p (.mov), [.t 6], none⟩, ⟨some 9, .p (.mov), [.t 0], none⟩, ⟨some 10, .p (.lenS), [.t 9], none⟩, ⟨some 11, .p (.binI .lss), [.t 8, .t 10], none⟩]) (.cond (.t 11) (.skip) (.exit 0))) (.seq (.block 1 (.seq (.seq (.ops false [] [⟨some 14, .p (.mov), [.t 0], none⟩, ⟨some 15, .p (.mov), [.t 6], none⟩, ⟨some 16, .p (.binI .sub), [.t 15, .c (.int .i64 1)], none⟩, ⟨some 17, .p (.mov), [.t 6], none⟩, ⟨some 18, .call 67, [.t 14, .t 16, .t 17], none⟩, ⟨some 19, .p (.field 0 1 false), [.t 18], none⟩, ⟨some 20, .p (.mov), [.t 1], none⟩, ⟨some 21, .p (.binI .lss), [.t 19, .t 20], none⟩]) (.cond (.t 21) (.exit 1) (.skip))) (.seq (.ops false [] [⟨some 22, .p (.mov), [.t 5], none⟩, ⟨some 23, .p (.lenS), [.t 22], none⟩, ⟨some 7, .p (.mov), [.t 23], none⟩]) (.seq (.ops false [] [⟨some 24, .p (.mov), [.t 7], none⟩, ⟨some 25, .p (.binI .gtr), [.t 24, .c (.int .i64 0)], none⟩, ⟨some 26, .p (.mov), [.t 25], none⟩, ⟨some 27, .p (.mov), [.t 5], some (26, true)⟩, ⟨some 28, .p (.mov), [.t 7], some (26, true)⟩, ⟨some 29, .p (.binI .sub), [.t 28, .c (.int .i64 1)], some (26, true)⟩, ⟨some 30, .p (.iaddrS 2), [.t 27, .t 29], some (26, true)⟩, ⟨some 31, .p (.faddr 1), [.t 30], some (26, true)⟩, ⟨some 32, .load 1 false, [.t 31], some (26, true)⟩, ⟨some 33, .p (.mov), [.t 6], some (26, true)⟩, ⟨some 34, .p (.binI .sub), [.t 33, .c (.int .i64 1)], some (26, true)⟩, ⟨some 35, .p (.binI .eql), [.t 32, .t 34], some (26, true)⟩, ⟨some 36, .p (.pick), [.t 26, .t 35, .c (.bool false)], none⟩]) (.cond (.t 36) (.ops false [] [⟨some 37, .p (.mov), [.t 5], none⟩, ⟨some 38, .p (.mov), [.t 7], none⟩, ⟨some 39, .p (.binI .sub), [.t 38, .c (.int .i64 1)], none⟩, ⟨some 40, .p (.mov), [.t 6], none⟩, ⟨some 41, .p (.iaddrS 2), [.t 37, .t 39], none⟩, ⟨some 42, .p (.faddr 1), [.t 41], none⟩, ⟨none, .store 1 false, [.t 42, .t 40], none⟩]) (.ops false [] [⟨some 43, .p (.mov), [.t 5], none⟩, ⟨some 44, .p (.mov), [.t 6], none⟩, ⟨some 45, .p (.binI .sub), [.t 44, .c (.int .i64 1)], none⟩, ⟨some 46, .p (.mov), [.t 6], none⟩, ⟨some 47, .p (.build [.int .i64 0, .int .i64 0] [(0, 1), (1, 1)]), [.t 45, .t 46], none⟩, ⟨some 48, .fbs 2, [.t 47], none⟩, ⟨some 49, .app 64 2 16, [.t 43, .t 48], none⟩, ⟨some 5, .p (.mov), [.t 49], none⟩])))))) (.ops false [] [⟨some 12, .p (.mov), [.t 6], none⟩, ⟨some 13, .p (.binI .add), [.t 12, .c (.int .i64 1)], none⟩, ⟨some 6, .p (.mov), [.t 13], none⟩])))))) (.seq (.ops false [] [⟨some 50, .p (.mov), [.t 5], none⟩, ⟨some 4, .p (.mov), [.t 50], none⟩]) (.ret))))
theorem c68 : FnC Try.prog 68 51 a68 [.tmp 4] := ⟨Try.call68, _, _, Try.func68, rfl, by kernel_rfl, by kernel_rfl, rfl⟩
namespace Sh

/-! ramps -/
def rampT (d : Int) (k : Int) : List Gt → OuN → OuN
  | [], o => o
  | g :: r, o => rampR d k g r o
theorem rampO_T (d : Int) (l : List Gt) : rampO d l = rampT d 1 l none := by cases l <;> rfl
theorem rampT_2 {d k : Int} {g x : Gt} {r : List Gt} {o : OuN} : rampT d k (g :: x :: r) o = rampT d (k + 1) (x :: r) (if (lossG g x).1 < d then o else rampD k o) := rfl
theorem rampT_e {d k : Int} {r : List Gt} {o : OuN} (h : r.length ≤ 1) : rampT d k r o = o := by
  match r, h with
  | [], _ => rfl
  | [g], _ => rfl
theorem drop_2 {l : List Gt} {n : Nat} (h : n + 1 < l.length) : l.drop n = l[n] :: l[n + 1] :: l.drop (n + 2) := by
  rw [List.drop_eq_getElem_cons (by omega), List.drop_eq_getElem_cons h]
def outv0 : OuN → AV
  | none => .nilslice
  | some (m, _) => .slice 0 2 0 (m.length + 1)
def outh0 : OuN → List HEnt
  | none => []
  | some (m, a) => [⟨0, 0, .rows 64 2 (m.map eN ++ [eN a])⟩]
def S63 (l : List Gt) (d : Int) (p : Nat × OuN) : AState := ⟨[.vs (l.map eG), I d, .any, .any, .any, .any, .any, outv0 p.2, I ((p.1 + 1 : Nat) : Int), .any, .any, .any, .any, .any, .any, .any, .any, .any, .any, .any, .any, .any, .any, .any, .any, .any, .any, .any, .any, .any, .any, .any, .any, .any, .any, .any, .any, .any, .any, .any, .any, .any, .any, .any, .any, .any, .any, .any, .any, .any, .any, .any, .any, .any, .any, .any, .any, .any, .any, .any, .any, .any, .any, .any, .any, .any, .any, .any], outh0 p.2, 1⟩
def S68 (l : List Gt) (d : Int) (p : Nat × OuN) : AState := ⟨[.vs (l.map eG), I d, .any, .any, .any, outv0 p.2, I ((p.1 + 1 : Nat) : Int), .any, .any, .any, .any, .any, .any, .any, .any, .any, .any, .any, .any, .any, .any, .any, .any, .any, .any, .any, .any, .any, .any, .any, .any, .any, .any, .any, .any, .any, .any, .any, .any, .any, .any, .any, .any, .any, .any, .any, .any, .any, .any, .any, .any], outh0 p.2, 1⟩
theorem k68 (l : List Gt) (d : Int) (hl : okS l) : FOk P 68 [.vs (l.map eG), I d] (.vs ((rampO d l).l.map eN)) := by
  have hlen := hl.1
  refine c68.fok (by simp only [subs, sub1, free_G]) (Cor.run (addC_good g67 (noC_good _)) (noHx_good _) hm ?_)
  simp +contextual -implicitDefEqProofs (maxSteps := 2000000) only [bg_eq, a68, ruB, rh_no, Int.reduceLT, Int.reduceLE, Int.reduceAdd, Int.reduceSub, Int.reduceMul, Int.reduceNeg, Int.reduceToNat, Int.reduceEq, Int.reduceNe, Int.reduceTDiv, Int.reduceTMod, implies_true, putL, appN, appX, appC, Eng.Fi, reduceCtorEq, exists_eq_left', exists_eq_left, if_true, if_false, List.replicate, Nat.reduceAdd, Nat.reduceSub, Nat.reduceMul, Nat.reduceLeDiff, Nat.reduceLT, Nat.reduceEqDiff]
  refine Cor.lp (addC_good g67 (noC_good _)) (noHx_good _) hm (S68 l d) (fun p => p.1 ≤ l.length ∧ rampO d l = rampT d ((p.1 + 1 : Nat) : Int) (l.drop p.1) p.2 ∧ p.2.l.length ≤ p.1) (fun p => l.length - p.1) (a := (0, none)) ⟨Nat.zero_le _, by rw [rampO_T]; rfl, by simp [OuN.l]⟩ (Wkn.to ⟨0, [], [], 1, [0, 1, 5, 6]⟩ rfl rfl (by simp only [Wk.st, keepT, sub1, subs, Wk.hp, ABlk.sub, free_G]; try rfl)) ?_
  rintro f ⟨n, o⟩ ⟨hn, hf, hol⟩ go
  simp only at hn hf hol
  rcases Nat.lt_or_ge (n + 1) l.length with h | h
  · have e1 : decide (((n + 1 : Nat) : Int) < (l.length : Int)) = true := by simp; omega
    have e3 : IntKind.wrap .i64 (((n + 1 : Nat) : Int) + 1) = ((n + 1 + 1 : Nat) : Int) := by rw [wrap64 (by omega) (by omega)]; rfl
    have e4 : IntKind.wrap .i64 (((n + 1 : Nat) : Int) - 1) = (n : Int) := by rw [wrap64 (by omega) (by omega)]; omega
    have y := x67 l n (n + 1) (by omega) h hl
    rw [drop_2 h, rampT_2] at hf
    by_cases hc : (lossG l[n] l[n + 1]).1 < d
    · rw [if_pos hc] at hf
      have hf' : rampO d l = rampT d ((n + 1 + 1 : Nat) : Int) (l.drop (n + 1)) o := by
        rw [List.drop_eq_getElem_cons h]; exact hf
      cases o with
      | none =>
        simp +contextual -implicitDefEqProofs (maxSteps := 2000000) only [S68, outv0, outh0, e1, e3, e4, y, hc, List.length_map, ruB, rh_no, Int.reduceLT, Int.reduceLE, Int.reduceAdd, Int.reduceSub, Int.reduceMul, Int.reduceNeg, Int.reduceToNat, Int.reduceEq, Int.reduceNe, Int.reduceTDiv, Int.reduceTMod, implies_true, putL, appN, appX, appC, Eng.Fi, reduceCtorEq, exists_eq_left', exists_eq_left, if_true, if_false, List.replicate, Nat.reduceAdd, Nat.reduceSub, Nat.reduceMul, Nat.reduceLeDiff, Nat.reduceLT, Nat.reduceEqDiff]
        exact go _ (n + 1, none) ⟨by simp only; omega, hf', by simp only; omega⟩ (by simp only; omega) (Wkn.to ⟨0, [], [], 1, [0, 1, 5, 6]⟩ rfl rfl (by simp only [Wk.st, keepT, sub1, subs, Wk.hp, ABlk.sub, free_G, S68, outv0, outh0]; try rfl))
      | some p =>
        obtain ⟨m, a⟩ := p
        simp +contextual -implicitDefEqProofs (maxSteps := 2000000) only [S68, outv0, outh0, e1, e3, e4, y, hc, List.length_map, ruB, rh_no, Int.reduceLT, Int.reduceLE, Int.reduceAdd, Int.reduceSub, Int.reduceMul, Int.reduceNeg, Int.reduceToNat, Int.reduceEq, Int.reduceNe, Int.reduceTDiv, Int.reduceTMod, implies_true, putL, appN, appX, appC, Eng.Fi, reduceCtorEq, exists_eq_left', exists_eq_left, if_true, if_false, List.replicate, Nat.reduceAdd, Nat.reduceSub, Nat.reduceMul, Nat.reduceLeDiff, Nat.reduceLT, Nat.reduceEqDiff]
        exact go _ (n + 1, some (m, a)) ⟨by simp only; omega, hf', by simp only; omega⟩ (by simp only; omega) (Wkn.to ⟨0, [(0, 0)], [], 1, [0, 1, 5, 6]⟩ rfl rfl (by simp only [Wk.st, keepT, sub1, subs, Wk.hp, ABlk.sub, free_G, subs_app, free_N, S68, outv0, outh0]; try rfl))
    · rw [if_neg hc] at hf
      cases o with
      | none =>
        have hf' : rampO d l = rampT d ((n + 1 + 1 : Nat) : Int) (l.drop (n + 1)) (some ([], ⟨(n : Int), ((n + 1 : Nat) : Int)⟩)) := by
          rw [List.drop_eq_getElem_cons h]
          have : ((n + 1 : Nat) : Int) - 1 = (n : Int) := by omega
          simp only [rampD, this] at hf
          exact hf
        simp +contextual -implicitDefEqProofs (maxSteps := 2000000) only [S68, outv0, outh0, e1, e3, e4, y, hc, mx, List.length_map, ruB, rh_no, Int.reduceLT, Int.reduceLE, Int.reduceAdd, Int.reduceSub, Int.reduceMul, Int.reduceNeg, Int.reduceToNat, Int.reduceEq, Int.reduceNe, Int.reduceTDiv, Int.reduceTMod, implies_true, putL, appN, appX, appC, Eng.Fi, reduceCtorEq, exists_eq_left', exists_eq_left, if_true, if_false, List.replicate, Nat.reduceAdd, Nat.reduceSub, Nat.reduceMul, Nat.reduceLeDiff, Nat.reduceLT, Nat.reduceEqDiff]
        exact go _ (n + 1, some ([], ⟨(n : Int), ((n + 1 : Nat) : Int)⟩)) ⟨by simp only; omega, hf', by simp [OuN.l]⟩ (by simp only; omega) (Wkn.to ⟨0, [(1, 0)], [], 1, [0, 1, 5, 6]⟩ rfl rfl (by simp only [Wk.st, keepT, sub1, subs, Wk.hp, ABlk.sub, free_G, S68, outv0, outh0]; try rfl))
      | some p =>
        obtain ⟨m, a⟩ := p
        have hml : m.length + 1 ≤ n := by simpa [OuN.l] using hol
        have w4 : IntKind.wrap .i64 (((m.length + 1 : Nat) : Int) - 1) = (m.length : Int) := by rw [wrap64 (by omega) (by omega)]; omega
        have w5 : ((0 : Int) < ((m.length + 1 : Nat) : Int)) = True := by simp only [eq_iff_iff, iff_true]; omega
        have hmx : (m.length + 1 + 1 ≤ maxLen) = True := mxL _ (by omega)
        have hmx2 : ((m.length + 1 + 1) * 16 ≤ 140737488355328) = True := by simp only [eq_iff_iff, iff_true]; omega
        have hk : ((n + 1 : Nat) : Int) - 1 = (n : Int) := by omega
        simp only [rampD, hk] at hf
        by_cases hq : a.hi = n
        · rw [if_pos hq] at hf
          have hf' : rampO d l = rampT d ((n + 1 + 1 : Nat) : Int) (l.drop (n + 1)) (some (m, ⟨a.lo, ((n + 1 : Nat) : Int)⟩)) := by
            rw [List.drop_eq_getElem_cons h]; exact hf
          simp +contextual -implicitDefEqProofs (maxSteps := 2000000) only [S68, outv0, outh0, e1, e3, e4, y, hc, w4, w5, hq, endm_get, endm_set, Nat.lt_add_one, List.length_map, ruB, rh_no, Int.reduceLT, Int.reduceLE, Int.reduceAdd, Int.reduceSub, Int.reduceMul, Int.reduceNeg, Int.reduceToNat, Int.reduceEq, Int.reduceNe, Int.reduceTDiv, Int.reduceTMod, implies_true, putL, appN, appX, appC, Eng.Fi, reduceCtorEq, exists_eq_left', exists_eq_left, if_true, if_false, List.replicate, Nat.reduceAdd, Nat.reduceSub, Nat.reduceMul, Nat.reduceLeDiff, Nat.reduceLT, Nat.reduceEqDiff]
          exact go _ (n + 1, some (m, ⟨a.lo, ((n + 1 : Nat) : Int)⟩)) ⟨by simp only; omega, hf', by simp [OuN.l]; omega⟩ (by simp only; omega) (Wkn.to ⟨0, [(0, 0)], [], 1, [0, 1, 5, 6]⟩ rfl rfl (by simp only [Wk.st, keepT, sub1, subs, Wk.hp, ABlk.sub, free_G, subs_app, free_N, S68, outv0, outh0]; try rfl))
        · rw [if_neg hq] at hf
          have hf' : rampO d l = rampT d ((n + 1 + 1 : Nat) : Int) (l.drop (n + 1)) (some (m ++ [a], ⟨(n : Int), ((n + 1 : Nat) : Int)⟩)) := by
            rw [List.drop_eq_getElem_cons h]; exact hf
          simp +contextual -implicitDefEqProofs (maxSteps := 2000000) only [S68, outv0, outh0, e1, e3, e4, y, hc, w4, w5, hq, hmx, hmx2, endm_get, endm_set, Nat.lt_add_one, List.length_map, ruB, rh_no, Int.reduceLT, Int.reduceLE, Int.reduceAdd, Int.reduceSub, Int.reduceMul, Int.reduceNeg, Int.reduceToNat, Int.reduceEq, Int.reduceNe, Int.reduceTDiv, Int.reduceTMod, implies_true, putL, appN, appX, appC, Eng.Fi, reduceCtorEq, exists_eq_left', exists_eq_left, if_true, if_false, List.replicate, Nat.reduceAdd, Nat.reduceSub, Nat.reduceMul, Nat.reduceLeDiff, Nat.reduceLT, Nat.reduceEqDiff]
          exact go _ (n + 1, some (m ++ [a], ⟨(n : Int), ((n + 1 : Nat) : Int)⟩)) ⟨by simp only; omega, hf', by simp [OuN.l]; omega⟩ (by simp only; omega) (Wkn.to ⟨0, [(1, 0)], [], 1, [0, 1, 5, 6]⟩ rfl rfl (by simp only [Wk.st, keepT, sub1, subs, Wk.hp, ABlk.sub, free_G, subs_app, free_N, S68, outv0, outh0, List.map_append, List.map_cons, List.map_nil, List.length_append, List.length_cons, List.length_nil, Nat.zero_add]; try rfl))
  · have e1 : decide (((n + 1 : Nat) : Int) < (l.length : Int)) = false := by simp; omega
    rw [rampT_e (by simp; omega)] at hf
    rw [hf]
    cases o with
    | none =>
      simp +contextual -implicitDefEqProofs (maxSteps := 2000000) only [S68, outv0, outh0, e1, OuN.l, List.length_map, ruB, rh_no, Int.reduceLT, Int.reduceLE, Int.reduceAdd, Int.reduceSub, Int.reduceMul, Int.reduceNeg, Int.reduceToNat, Int.reduceEq, Int.reduceNe, Int.reduceTDiv, Int.reduceTMod, implies_true, putL, appN, appX, appC, Eng.Fi, reduceCtorEq, exists_eq_left', exists_eq_left, if_true, if_false, List.replicate, Nat.reduceAdd, Nat.reduceSub, Nat.reduceMul, Nat.reduceLeDiff, Nat.reduceLT, Nat.reduceEqDiff]
      exact ⟨rfl, rfl⟩
    | some p =>
      obtain ⟨m, a⟩ := p
      have t1 : (m.length ≤ (m.map eN).length) = True := by simp
      have t2 : ∀ x, (m.map eN ++ [x]).take (m.length + 1) = m.map eN ++ [x] := fun x => by rw [List.take_of_length_le]; simp
      simp +contextual -implicitDefEqProofs (maxSteps := 2000000) only [S68, outv0, outh0, e1, OuN.l, List.length_map, t1, t2, ruB, rh_no, Int.reduceLT, Int.reduceLE, Int.reduceAdd, Int.reduceSub, Int.reduceMul, Int.reduceNeg, Int.reduceToNat, Int.reduceEq, Int.reduceNe, Int.reduceTDiv, Int.reduceTMod, implies_true, putL, appN, appX, appC, Eng.Fi, reduceCtorEq, exists_eq_left', exists_eq_left, if_true, if_false, List.replicate, Nat.reduceAdd, Nat.reduceSub, Nat.reduceMul, Nat.reduceLeDiff, Nat.reduceLT, Nat.reduceEqDiff]
      exact ⟨by simp, by rw [free_N]⟩
def c68f : List AV → Option AV
  | [.vs vals, .int .i64 d] => onL dG vals fun l => if okS l then some (.vs ((rampO d l).l.map eN)) else none
  | _ => none
theorem g68 : Fn P 68 c68f := fun args v h => by
  unfold c68f at h; split at h
  · obtain ⟨l, rfl, h2⟩ := onL_inv dG_inv h
    split at h2
    · rename_i hc; cases h2; exact k68 l _ hc
    · cases h2
  · cases h
theorem x68 (l : List Gt) (d : Int) (h : (okS l) = True) : c68f [.vs (l.map eG), .int .i64 d] = some (.vs ((rampO d l).l.map eN)) := by
  simp only [c68f, onL_map dG_e, h, if_true]
theorem k63 (l : List Gt) (d : Int) (hl : l.length ≤ 1099511627776) : FOk P 63 [.vs (l.map eG), I d] (.tup [.vs ((rmL l d).1.map eN), I (rmL l d).2]) := by
  have h' : (l.length ≤ 1099511627776) = True := by simp [hl]
  refine c63.fok (by simp only [subs, sub1, free_G]) (Cor.run (addC_good g84 (addC_good g85 (addC_good g117 (addC_good g107 (addC_good g97 (noC_good _)))))) (noHx_good _) hm ?_)
  by_cases h0 : rmE l d = 0
  · have h0' := h0
    unfold rmE at h0'
    have hz := firstE_zero h0' _ (by simp : (chkP l).2 ∈ _)
    have hs := chkP_sG hz
    have h20 := (chkP_zero hz).1
    have hr : rmL l d = ((rampO d l).l, 0) := by simp only [rmL, h0, if_true]
    rw [hr]
    simp +contextual -implicitDefEqProofs (maxSteps := 2000000) only [bg_eq, a63, x97, x107, x85, x84, r84s, Lmax, h', h0', ruB, rh_no, Int.reduceLT, Int.reduceLE, Int.reduceAdd, Int.reduceSub, Int.reduceMul, Int.reduceNeg, Int.reduceToNat, Int.reduceEq, Int.reduceNe, Int.reduceTDiv, Int.reduceTMod, implies_true, putL, appN, appX, appC, Eng.Fi, reduceCtorEq, exists_eq_left', exists_eq_left, if_true, if_false, List.replicate, Nat.reduceAdd, Nat.reduceSub, Nat.reduceMul, Nat.reduceLeDiff, Nat.reduceLT, Nat.reduceEqDiff]
    refine Cor.lp (addC_good g84 (addC_good g85 (addC_good g117 (addC_good g107 (addC_good g97 (noC_good _)))))) (noHx_good _) hm (S63 l d) (fun p => p.1 ≤ l.length ∧ rampO d l = rampT d ((p.1 + 1 : Nat) : Int) (l.drop p.1) p.2 ∧ p.2.l.length ≤ p.1) (fun p => l.length - p.1) (a := (0, none)) ⟨Nat.zero_le _, by rw [rampO_T]; rfl, by simp [OuN.l]⟩ (Wkn.to ⟨0, [], [], 1, [0, 1, 7, 8]⟩ rfl rfl (by simp only [Wk.st, keepT, sub1, subs, Wk.hp, ABlk.sub, free_G]; try rfl)) ?_
    rintro f ⟨n, o⟩ ⟨hn, hf, hol⟩ go
    simp only at hn hf hol
    rcases Nat.lt_or_ge (n + 1) l.length with h | h
    · have e1 : decide (((n + 1 : Nat) : Int) < (l.length : Int)) = true := by simp; omega
      have e3 : IntKind.wrap .i64 (((n + 1 : Nat) : Int) + 1) = ((n + 1 + 1 : Nat) : Int) := by rw [wrap64 (by omega) (by omega)]; rfl
      have e4 : IntKind.wrap .i64 (((n + 1 : Nat) : Int) - 1) = (n : Int) := by rw [wrap64 (by omega) (by omega)]; omega
      have hn0 : n < l.length := by omega
      have e5 : (l.map eG)[n]? = some (eG l[n]) := by simp [hn0]
      have e6 : (l.map eG)[n + 1]? = some (eG l[n + 1]) := by simp [h]
      have s1 : (sG l[n]) = True := by simp [hs]
      have s2 : (sG l[n + 1]) = True := by simp [hs]
      rw [drop_2 h, rampT_2] at hf
      by_cases hc : l[n].lo - l[n + 1].hi < d
      · rw [if_pos (by exact hc)] at hf
        have hf' : rampO d l = rampT d ((n + 1 + 1 : Nat) : Int) (l.drop (n + 1)) o := by
          rw [List.drop_eq_getElem_cons h]; exact hf
        cases o with
        | none =>
          simp +contextual -implicitDefEqProofs (maxSteps := 2000000) only [S63, outv0, outh0, e1, e3, e4, e5, e6, x117, s1, s2, hc, List.length_map, ruB, rh_no, Int.reduceLT, Int.reduceLE, Int.reduceAdd, Int.reduceSub, Int.reduceMul, Int.reduceNeg, Int.reduceToNat, Int.reduceEq, Int.reduceNe, Int.reduceTDiv, Int.reduceTMod, implies_true, putL, appN, appX, appC, Eng.Fi, reduceCtorEq, exists_eq_left', exists_eq_left, if_true, if_false, List.replicate, Nat.reduceAdd, Nat.reduceSub, Nat.reduceMul, Nat.reduceLeDiff, Nat.reduceLT, Nat.reduceEqDiff]
          exact go _ (n + 1, none) ⟨by simp only; omega, hf', by simp only; omega⟩ (by simp only; omega) (Wkn.to ⟨0, [], [], 1, [0, 1, 7, 8]⟩ rfl rfl (by simp only [Wk.st, keepT, sub1, subs, Wk.hp, ABlk.sub, free_G, S63, outv0, outh0]; try rfl))
        | some p =>
          obtain ⟨m, a⟩ := p
          simp +contextual -implicitDefEqProofs (maxSteps := 2000000) only [S63, outv0, outh0, e1, e3, e4, e5, e6, x117, s1, s2, hc, List.length_map, ruB, rh_no, Int.reduceLT, Int.reduceLE, Int.reduceAdd, Int.reduceSub, Int.reduceMul, Int.reduceNeg, Int.reduceToNat, Int.reduceEq, Int.reduceNe, Int.reduceTDiv, Int.reduceTMod, implies_true, putL, appN, appX, appC, Eng.Fi, reduceCtorEq, exists_eq_left', exists_eq_left, if_true, if_false, List.replicate, Nat.reduceAdd, Nat.reduceSub, Nat.reduceMul, Nat.reduceLeDiff, Nat.reduceLT, Nat.reduceEqDiff]
          exact go _ (n + 1, some (m, a)) ⟨by simp only; omega, hf', by simp only; omega⟩ (by simp only; omega) (Wkn.to ⟨0, [(0, 0)], [], 1, [0, 1, 7, 8]⟩ rfl rfl (by simp only [Wk.st, keepT, sub1, subs, Wk.hp, ABlk.sub, free_G, subs_app, free_N, S63, outv0, outh0]; try rfl))
      · rw [if_neg (by exact hc)] at hf
        cases o with
        | none =>
          have hf' : rampO d l = rampT d ((n + 1 + 1 : Nat) : Int) (l.drop (n + 1)) (some ([], ⟨(n : Int), ((n + 1 : Nat) : Int)⟩)) := by
            rw [List.drop_eq_getElem_cons h]
            have : ((n + 1 : Nat) : Int) - 1 = (n : Int) := by omega
            simp only [rampD, this] at hf
            exact hf
          simp +contextual -implicitDefEqProofs (maxSteps := 2000000) only [S63, outv0, outh0, e1, e3, e4, e5, e6, x117, s1, s2, hc, mx, List.length_map, ruB, rh_no, Int.reduceLT, Int.reduceLE, Int.reduceAdd, Int.reduceSub, Int.reduceMul, Int.reduceNeg, Int.reduceToNat, Int.reduceEq, Int.reduceNe, Int.reduceTDiv, Int.reduceTMod, implies_true, putL, appN, appX, appC, Eng.Fi, reduceCtorEq, exists_eq_left', exists_eq_left, if_true, if_false, List.replicate, Nat.reduceAdd, Nat.reduceSub, Nat.reduceMul, Nat.reduceLeDiff, Nat.reduceLT, Nat.reduceEqDiff]
          exact go _ (n + 1, some ([], ⟨(n : Int), ((n + 1 : Nat) : Int)⟩)) ⟨by simp only; omega, hf', by simp [OuN.l]⟩ (by simp only; omega) (Wkn.to ⟨0, [(1, 0)], [], 1, [0, 1, 7, 8]⟩ rfl rfl (by simp only [Wk.st, keepT, sub1, subs, Wk.hp, ABlk.sub, free_G, S63, outv0, outh0]; try rfl))
        | some p =>
          obtain ⟨m, a⟩ := p
          have hml : m.length + 1 ≤ n := by simpa [OuN.l] using hol
          have w4 : IntKind.wrap .i64 (((m.length + 1 : Nat) : Int) - 1) = (m.length : Int) := by rw [wrap64 (by omega) (by omega)]; omega
          have w5 : ((0 : Int) < ((m.length + 1 : Nat) : Int)) = True := by simp only [eq_iff_iff, iff_true]; omega
          have hmx : (m.length + 1 + 1 ≤ maxLen) = True := mxL _ (by omega)
          have hmx2 : ((m.length + 1 + 1) * 16 ≤ 140737488355328) = True := by simp only [eq_iff_iff, iff_true]; omega
          have hk : ((n + 1 : Nat) : Int) - 1 = (n : Int) := by omega
          simp only [rampD, hk] at hf
          by_cases hq : a.hi = n
          · rw [if_pos hq] at hf
            have hf' : rampO d l = rampT d ((n + 1 + 1 : Nat) : Int) (l.drop (n + 1)) (some (m, ⟨a.lo, ((n + 1 : Nat) : Int)⟩)) := by
              rw [List.drop_eq_getElem_cons h]; exact hf
            simp +contextual -implicitDefEqProofs (maxSteps := 2000000) only [S63, outv0, outh0, e1, e3, e4, e5, e6, x117, s1, s2, hc, w4, w5, hq, endm_get, endm_set, Nat.lt_add_one, List.length_map, ruB, rh_no, Int.reduceLT, Int.reduceLE, Int.reduceAdd, Int.reduceSub, Int.reduceMul, Int.reduceNeg, Int.reduceToNat, Int.reduceEq, Int.reduceNe, Int.reduceTDiv, Int.reduceTMod, implies_true, putL, appN, appX, appC, Eng.Fi, reduceCtorEq, exists_eq_left', exists_eq_left, if_true, if_false, List.replicate, Nat.reduceAdd, Nat.reduceSub, Nat.reduceMul, Nat.reduceLeDiff, Nat.reduceLT, Nat.reduceEqDiff]
            exact go _ (n + 1, some (m, ⟨a.lo, ((n + 1 : Nat) : Int)⟩)) ⟨by simp only; omega, hf', by simp [OuN.l]; omega⟩ (by simp only; omega) (Wkn.to ⟨0, [(0, 0)], [], 1, [0, 1, 7, 8]⟩ rfl rfl (by simp only [Wk.st, keepT, sub1, subs, Wk.hp, ABlk.sub, free_G, subs_app, free_N, S63, outv0, outh0]; try rfl))
          · rw [if_neg hq] at hf
            have hf' : rampO d l = rampT d ((n + 1 + 1 : Nat) : Int) (l.drop (n + 1)) (some (m ++ [a], ⟨(n : Int), ((n + 1 : Nat) : Int)⟩)) := by
              rw [List.drop_eq_getElem_cons h]; exact hf
            simp +contextual -implicitDefEqProofs (maxSteps := 2000000) only [S63, outv0, outh0, e1, e3, e4, e5, e6, x117, s1, s2, hc, w4, w5, hq, hmx, hmx2, endm_get, endm_set, Nat.lt_add_one, List.length_map, ruB, rh_no, Int.reduceLT, Int.reduceLE, Int.reduceAdd, Int.reduceSub, Int.reduceMul, Int.reduceNeg, Int.reduceToNat, Int.reduceEq, Int.reduceNe, Int.reduceTDiv, Int.reduceTMod, implies_true, putL, appN, appX, appC, Eng.Fi, reduceCtorEq, exists_eq_left', exists_eq_left, if_true, if_false, List.replicate, Nat.reduceAdd, Nat.reduceSub, Nat.reduceMul, Nat.reduceLeDiff, Nat.reduceLT, Nat.reduceEqDiff]
            exact go _ (n + 1, some (m ++ [a], ⟨(n : Int), ((n + 1 : Nat) : Int)⟩)) ⟨by simp only; omega, hf', by simp [OuN.l]; omega⟩ (by simp only; omega) (Wkn.to ⟨0, [(1, 0)], [], 1, [0, 1, 7, 8]⟩ rfl rfl (by simp only [Wk.st, keepT, sub1, subs, Wk.hp, ABlk.sub, free_G, subs_app, free_N, S63, outv0, outh0, List.map_append, List.map_cons, List.map_nil, List.length_append, List.length_cons, List.length_nil, Nat.zero_add]; try rfl))
    · have e1 : decide (((n + 1 : Nat) : Int) < (l.length : Int)) = false := by simp; omega
      rw [rampT_e (by simp; omega)] at hf
      rw [hf]
      cases o with
      | none =>
        simp +contextual -implicitDefEqProofs (maxSteps := 2000000) only [S63, outv0, outh0, e1, OuN.l, List.length_map, ruB, rh_no, Int.reduceLT, Int.reduceLE, Int.reduceAdd, Int.reduceSub, Int.reduceMul, Int.reduceNeg, Int.reduceToNat, Int.reduceEq, Int.reduceNe, Int.reduceTDiv, Int.reduceTMod, implies_true, putL, appN, appX, appC, Eng.Fi, reduceCtorEq, exists_eq_left', exists_eq_left, if_true, if_false, List.replicate, Nat.reduceAdd, Nat.reduceSub, Nat.reduceMul, Nat.reduceLeDiff, Nat.reduceLT, Nat.reduceEqDiff]
        exact ⟨rfl, rfl⟩
      | some p =>
        obtain ⟨m, a⟩ := p
        have t1 : (m.length ≤ (m.map eN).length) = True := by simp
        have t2 : ∀ x, (m.map eN ++ [x]).take (m.length + 1) = m.map eN ++ [x] := fun x => by rw [List.take_of_length_le]; simp
        simp +contextual -implicitDefEqProofs (maxSteps := 2000000) only [S63, outv0, outh0, e1, OuN.l, List.length_map, t1, t2, ruB, rh_no, Int.reduceLT, Int.reduceLE, Int.reduceAdd, Int.reduceSub, Int.reduceMul, Int.reduceNeg, Int.reduceToNat, Int.reduceEq, Int.reduceNe, Int.reduceTDiv, Int.reduceTMod, implies_true, putL, appN, appX, appC, Eng.Fi, reduceCtorEq, exists_eq_left', exists_eq_left, if_true, if_false, List.replicate, Nat.reduceAdd, Nat.reduceSub, Nat.reduceMul, Nat.reduceLeDiff, Nat.reduceLT, Nat.reduceEqDiff]
        rw [if_pos (Nat.le_refl _)]
        exact ⟨by simp [consO], by simp [subs_app, free_N, subs, sub1]⟩
  · have h0' := h0
    unfold rmE at h0'
    have hr : rmL l d = ([], firstE [(chkP l).2, unl (1 ≤ d ∧ d ≤ 20000) 2]) := by rw [rmL, if_neg h0]; rfl
    rw [hr]
    simp +contextual -implicitDefEqProofs (maxSteps := 2000000) only [bg_eq, a63, x97, x107, x85, x84, r84s, Lmax, h', h0', not_false_eq_true, ruB, rh_no, Int.reduceLT, Int.reduceLE, Int.reduceAdd, Int.reduceSub, Int.reduceMul, Int.reduceNeg, Int.reduceToNat, Int.reduceEq, Int.reduceNe, Int.reduceTDiv, Int.reduceTMod, implies_true, putL, appN, appX, appC, Eng.Fi, reduceCtorEq, exists_eq_left', exists_eq_left, if_true, if_false, List.replicate, Nat.reduceAdd, Nat.reduceSub, Nat.reduceMul, Nat.reduceLeDiff, Nat.reduceLT, Nat.reduceEqDiff]
    exact ⟨rfl, rfl⟩
def c63f : List AV → Option AV
  | [.vs vals, .int .i64 d] => onL dG vals fun l => if l.length ≤ 1099511627776 then some (.tup [.vs ((rmL l d).1.map eN), I (rmL l d).2]) else none
  | _ => none
theorem g63 : Fn P 63 c63f := fun args v h => by
  unfold c63f at h; split at h
  · obtain ⟨l, rfl, h2⟩ := onL_inv dG_inv h
    split at h2
    · rename_i hc; cases h2; exact k63 l _ hc
    · cases h2
  · cases h
theorem x63 (l : List Gt) (d : Int) (h : (l.length ≤ 1099511627776) = True) : c63f [.vs (l.map eG), .int .i64 d] = some (.tup [.vs ((rmL l d).1.map eN), I (rmL l d).2]) := by
  simp only [c63f, onL_map dG_e, h, if_true]
end Sh
