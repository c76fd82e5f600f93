import Derived.Test.YtjfhhaaogcgkpaaEngS9
import Derived.Test.YtjfhhaaogcgkpaaC34
open Go Go.Proofs Eng
set_option maxRecDepth 100000
set_option linter.unusedSimpArgs false
set_option linter.unusedVariables false
def a69 : AC := .seq (.ops false [] [⟨some 6, .alloc 112 4 [.agg [.int .i64 0, .int .i64 0, .int .i64 0, .int .i64 0]], [], none⟩, ⟨some 7, .p (.mov), [.c (.bool false)], none⟩]) (.seq (.ops false [] [⟨some 8, .alloc 112 4 [.agg [.int .i64 0, .int .i64 0, .int .i64 0, .int .i64 0]], [], none⟩]) (.seq (.ops false [] [⟨some 9, .p (.mov), [.c (.bool false)], none⟩]) (.seq (.seq (.ops false [] [⟨some 10, .p (.mov), [.c (.int .i64 0)], none⟩]) (.block 0 (.loop (.seq (.seq (.ops false [] [⟨some 13, .p (.mov), [.t 10], none⟩, ⟨some 14, .p (.mov), [.t 0], none⟩, ⟨some 15, .p (.lenS), [.t 14], none⟩, ⟨some 16, .p (.binI .lss), [.t 13, .t 15], none⟩]) (.cond (.t 16) (.skip) (.exit 0))) (.seq (.block 1 (.seq (.ops false [] [⟨some 19, .p (.mov), [.t 10], none⟩, ⟨some 20, .p (.binI .add), [.t 19, .c (.int .i64 1)], none⟩, ⟨some 11, .p (.mov), [.t 20], none⟩]) (.block 2 (.loop (.seq (.seq (.ops false [] [⟨some 21, .p (.mov), [.t 11], none⟩, ⟨some 22, .p (.mov), [.t 0], none⟩, ⟨some 23, .p (.lenS), [.t 22], none⟩, ⟨some 24, .p (.binI .lss), [.t 21, .t 23], none⟩]) (.cond (.t 24) (.skip) (.exit 2))) (.seq (.block 3 (.seq (.seq (.ops true [] [⟨some 27, .p (.mov), [.t 0], none⟩, ⟨some 28, .p (.mov), [.t 11], none⟩, ⟨some 29, .p (.iaddrS 3), [.t 27, .t 28], none⟩, ⟨some 30, .p (.faddr 0), [.t 29], none⟩, ⟨some 31, .load 1 false, [.t 30], none⟩, ⟨some 32, .p (.mov), [.t 0], none⟩, ⟨some 33, .p (.mov), [.t 10], none⟩, ⟨some 34, .p (.iaddrS 3), [.t 32, .t 33], none⟩, ⟨some 35, .p (.faddr 0), [.t 34], none⟩, ⟨some 36, .load 1 false, [.t 35], none⟩, ⟨some 37, .p (.binI .sub), [.t 31, .t 36], none⟩, ⟨some 38, .p (.mov), [.t 1], none⟩, ⟨some 39, .p (.binI .gtr), [.t 37, .t 38], none⟩]) (.cond (.t 39) (.exit 3) (.skip))) (.seq (.ops false [] [⟨some 40, .p (.mov), [.t 0], none⟩, ⟨some 41, .p (.mov), [.t 10], none⟩, ⟨some 42, .p (.mov), [.t 11], none⟩, ⟨some 43, .call 67, [.t 40, .t 41, .t 42], none⟩, ⟨some 12, .alloc 64 2 [.agg [.int .i64 0, .int .i64 0]], [], none⟩, ⟨none, .store 2 true, [.t 12, .t 43], none⟩]) (.seq (.seq (.ops false [] [⟨some 44, .p (.mov), [.t 2], none⟩]) (.cond (.t 44) (.ops false [] [⟨some 45, .load 2 true, [.t 12], none⟩, ⟨some 46, .call 125, [.t 45], none⟩, ⟨none, .store 2 true, [.t 12, .t 46], none⟩]) (.skip))) (.seq (.ops false [] [⟨some 47, .p (.mov), [.t 9], none⟩, ⟨some 48, .p (.notB), [.t 47], none⟩, ⟨some 49, .p (.mov), [.t 48], none⟩, ⟨some 50, .p (.faddr 0), [.t 12], some (49, false)⟩, ⟨some 51, .load 1 false, [.t 50], some (49, false)⟩, ⟨some 52, .p (.faddr 2), [.t 8], some (49, false)⟩, ⟨some 53, .p (.faddr 0), [.t 52], some (49, false)⟩, ⟨some 54, .load 1 false, [.t 53], some (49, false)⟩, ⟨some 55, .p (.binI .gtr), [.t 51, .t 54], some (49, false)⟩, ⟨some 56, .p (.pick), [.t 49, .c (.bool true), .t 55], none⟩]) (.cond (.t 56) (.ops false [] [⟨some 57, .p (.mov), [.t 10], none⟩, ⟨some 58, .p (.mov), [.t 11], none⟩, ⟨some 59, .load 2 true, [.t 12], none⟩, ⟨some 60, .p (.build [.int .i64 0, .int .i64 0, .int .i64 0, .int .i64 0] [(0, 1), (1, 1), (2, 2)]), [.t 57, .t 58, .t 59], none⟩, ⟨none, .store 4 true, [.t 8, .t 60], none⟩, ⟨some 9, .p (.mov), [.c (.bool true)], none⟩]) (.skip))))))) (.ops false [] [⟨some 25, .p (.mov), [.t 11], none⟩, ⟨some 26, .p (.binI .add), [.t 25, .c (.int .i64 1)], none⟩, ⟨some 11, .p (.mov), [.t 26], none⟩]))))))) (.ops false [] [⟨some 17, .p (.mov), [.t 10], none⟩, ⟨some 18, .p (.binI .add), [.t 17, .c (.int .i64 1)], none⟩, ⟨some 10, .p (.mov), [.t 18], none⟩])))))) (.seq (.ops false [] [⟨some 61, .load 4 true, [.t 8], none⟩, ⟨some 62, .p (.mov), [.t 9], none⟩, ⟨none, .store 4 true, [.t 6, .t 61], none⟩, ⟨some 7, .p (.mov), [.t 62], none⟩]) (.ret)))))
theorem c69 : FnC Try.prog 69 63 a69 [.cell 6 4 true, .tmp 7] := ⟨Try.call69, _, _, Try.func69, rfl, by kernel_rfl, by kernel_rfl, rfl⟩
def a70 : AC := .seq (.ops false [] [⟨some 4, .p (.mov), [.c (.int .i64 0)], none⟩, ⟨some 5, .p (.mov), [.c (.bool false)], none⟩]) (.seq (.ops false [] [⟨some 6, .p (.mov), [.c (.int .i64 0)], none⟩, ⟨some 7, .p (.mov), [.c (.bool false)], none⟩]) (.seq (.seq (.ops false [] [⟨some 8, .p (.mov), [.c (.int .i64 0)], none⟩]) (.block 0 (.loop (.seq (.seq (.ops false [] [⟨some 11, .p (.mov), [.t 8], none⟩, ⟨some 12, .p (.mov), [.t 0], none⟩, ⟨some 13, .p (.lenS), [.t 12], none⟩, ⟨some 14, .p (.binI .lss), [.t 11, .t 13], none⟩]) (.cond (.t 14) (.skip) (.exit 0))) (.seq (.block 1 (.seq (.ops false [] [⟨some 17, .p (.mov), [.t 8], none⟩, ⟨some 18, .p (.binI .add), [.t 17, .c (.int .i64 1)], none⟩, ⟨some 9, .p (.mov), [.t 18], none⟩]) (.block 2 (.loop (.seq (.seq (.ops false [] [⟨some 19, .p (.mov), [.t 9], none⟩, ⟨some 20, .p (.mov), [.t 0], none⟩, ⟨some 21, .p (.lenS), [.t 20], none⟩, ⟨some 22, .p (.binI .lss), [.t 19, .t 21], none⟩]) (.cond (.t 22) (.skip) (.exit 2))) (.seq (.block 3 (.seq (.ops false [] [⟨some 25, .p (.mov), [.t 0], none⟩, ⟨some 26, .p (.mov), [.t 8], none⟩, ⟨some 27, .p (.mov), [.t 9], none⟩, ⟨some 28, .call 67, [.t 25, .t 26, .t 27], none⟩, ⟨some 29, .p (.field 1 1 false), [.t 28], none⟩, ⟨some 10, .p (.mov), [.t 29], none⟩]) (.seq (.ops true [] [⟨some 30, .p (.mov), [.t 0], none⟩, ⟨some 31, .p (.mov), [.t 9], none⟩, ⟨some 32, .p (.iaddrS 3), [.t 30, .t 31], none⟩, ⟨some 33, .p (.faddr 0), [.t 32], none⟩, ⟨some 34, .load 1 false, [.t 33], none⟩, ⟨some 35, .p (.mov), [.t 0], none⟩, ⟨some 36, .p (.mov), [.t 8], none⟩, ⟨some 37, .p (.iaddrS 3), [.t 35, .t 36], none⟩, ⟨some 38, .p (.faddr 0), [.t 37], none⟩, ⟨some 39, .load 1 false, [.t 38], none⟩, ⟨some 40, .p (.binI .sub), [.t 34, .t 39], none⟩, ⟨some 41, .p (.mov), [.t 1], none⟩, ⟨some 42, .p (.binI .leq), [.t 40, .t 41], none⟩, ⟨some 43, .p (.mov), [.t 42], none⟩, ⟨some 44, .p (.mov), [.t 7], some (43, true)⟩, ⟨some 45, .p (.notB), [.t 44], some (43, true)⟩, ⟨some 46, .p (.mov), [.t 45], some (43, true)⟩, ⟨some 47, .p (.mov), [.t 10], some (46, false)⟩, ⟨some 48, .p (.mov), [.t 6], some (46, false)⟩, ⟨some 49, .p (.binI .gtr), [.t 47, .t 48], some (46, false)⟩, ⟨some 50, .p (.pick), [.t 46, .c (.bool true), .t 49], some (43, true)⟩, ⟨some 51, .p (.pick), [.t 43, .t 50, .c (.bool false)], none⟩]) (.cond (.t 51) (.ops false [] [⟨some 52, .p (.mov), [.t 10], none⟩, ⟨some 6, .p (.mov), [.t 52], none⟩, ⟨some 7, .p (.mov), [.c (.bool true)], none⟩]) (.skip))))) (.ops false [] [⟨some 23, .p (.mov), [.t 9], none⟩, ⟨some 24, .p (.binI .add), [.t 23, .c (.int .i64 1)], none⟩, ⟨some 9, .p (.mov), [.t 24], none⟩]))))))) (.ops false [] [⟨some 15, .p (.mov), [.t 8], none⟩, ⟨some 16, .p (.binI .add), [.t 15, .c (.int .i64 1)], none⟩, ⟨some 8, .p (.mov), [.t 16], none⟩])))))) (.seq (.ops false [] [⟨some 53, .p (.mov), [.t 6], none⟩, ⟨some 54, .p (.mov), [.t 7], none⟩, ⟨some 4, .p (.mov), [.t 53], none⟩, ⟨some 5, .p (.mov), [.t 54], none⟩]) (.ret))))
theorem c70 : FnC Try.prog 70 55 a70 [.tmp 4, .tmp 5] := ⟨Try.call70, _, _, Try.func70, rfl, by kernel_rfl, by kernel_rfl, rfl⟩
namespace Sh

/-! the strongest change of the reference -/
def chgB (g : Bool) (a b : Gt) : Int × Int := if g = true then gainG a b else lossG a b
def refS (g : Bool) (l : List Gt) (d : Int) : Ch := (pairsF d 0 l).foldl (stC (chgB g) l) ⟨0, 0, 0, 0⟩
def S69 (l : List Gt) (d : Int) (g : Bool) (p : Nat × Ch) : AState := ⟨[.vs (l.map eG), I d, B g, .any, .any, .any, .ptr 0 4 0 0, .any, .ptr 1 4 0 0, B (decide (¬ p.2.to = 0)), I p.1, .any, .any, .any, .any, .any, .any, .any, .any, .any, .any, .any, .any, .any, .any, .any, .any, .any, .any, .any, .any, .any, .any, .any, .any, .any, .any, .any, .any, .any, .any, .any, .any, .any, .any, .any, .any, .any, .any, .any, .any, .any, .any, .any, .any, .any, .any, .any, .any, .any, .any, .any, .any], [⟨1, 1, .rows 112 4 [eC p.2]⟩, ⟨0, 0, .rows 112 4 [eC ⟨0, 0, 0, 0⟩]⟩], 2⟩
def S69i (l : List Gt) (d : Int) (g : Bool) (i : Nat) (p : Nat × Ch) : AState := ⟨[.vs (l.map eG), I d, B g, .any, .any, .any, .ptr 0 4 0 0, .any, .ptr 1 4 0 0, B (decide (¬ p.2.to = 0)), I i, I p.1, .any, .any, .any, .any, .any, .any, .any, .any, .any, .any, .any, .any, .any, .any, .any, .any, .any, .any, .any, .any, .any, .any, .any, .any, .any, .any, .any, .any, .any, .any, .any, .any, .any, .any, .any, .any, .any, .any, .any, .any, .any, .any, .any, .any, .any, .any, .any, .any, .any, .any, .any], [⟨1, 1, .rows 112 4 [eC p.2]⟩, ⟨0, 0, .rows 112 4 [eC ⟨0, 0, 0, 0⟩]⟩], 2⟩
set_option maxHeartbeats 2000000 in
theorem k69 (l : List Gt) (d : Int) (g : Bool) (hl : okS l) : FOk P 69 [.vs (l.map eG), I d, .bool g] (.tup [eC (refS g l d), B (decide (¬ (refS g l d).to = 0))]) := by
  have hlen := hl.1
  refine c69.fok (by simp only [subs, sub1, free_G]) (Cor.run (addC_good g125 (addC_good g67 (noC_good _))) (noHx_good _) hm ?_)
  simp +contextual -implicitDefEqProofs (maxSteps := 2000000) only [bg_eq, a69, ruB, rh_no, Int.reduceLT, Int.reduceLE, Int.reduceAdd, Int.reduceSub, Int.reduceMul, Int.reduceNeg, Int.reduceToNat, Int.reduceEq, Int.reduceNe, Int.reduceTDiv, Int.reduceTMod, implies_true, putL, appN, appX, appC, Eng.Fi, reduceCtorEq, exists_eq_left', exists_eq_left, if_true, if_false, List.replicate, Nat.reduceAdd, Nat.reduceSub, Nat.reduceMul, Nat.reduceLeDiff, Nat.reduceLT, Nat.reduceEqDiff]
  refine Cor.lp (addC_good g125 (addC_good g67 (noC_good _))) (noHx_good _) hm (S69 l d g) (fun p => p.1 ≤ l.length ∧ refS g l d = (pairsF d p.1 (l.drop p.1)).foldl (stC (chgB g) l) p.2) (fun p => l.length - p.1) (a := (0, ⟨0, 0, 0, 0⟩)) ⟨Nat.zero_le _, rfl⟩ (Wkn.to ⟨0, [(0, 0), (1, 1)], [], 2, [0, 1, 2, 6, 8, 9, 10]⟩ rfl rfl (by simp only [Wk.st, keepT, sub1, subs, Wk.hp, ABlk.sub, free_G, S69, decide_false, not_true_eq_false]; try rfl)) ?_
  rintro f ⟨i, c⟩ ⟨hi, hf⟩ go
  simp only at hi hf
  rcases Nat.lt_or_ge i l.length with h | h
  · have e1 : decide ((i : Int) < (l.length : Int)) = true := by simp; omega
    have e2 : (l.map eG)[i]? = some (eG l[i]) := by simp [h]
    have e3 : IntKind.wrap .i64 ((i : Int) + 1) = ((i + 1 : Nat) : Int) := by rw [wrap64 (by omega) (by omega)]; rfl
    have si := hl.2 l[i] (by simp)
    rw [List.drop_eq_getElem_cons h, pairsF, List.foldl_append] at hf
    simp +contextual -implicitDefEqProofs (maxSteps := 2000000) only [S69, e1, e3, List.length_map, ruB, rh_no, Int.reduceLT, Int.reduceLE, Int.reduceAdd, Int.reduceSub, Int.reduceMul, Int.reduceNeg, Int.reduceToNat, Int.reduceEq, Int.reduceNe, Int.reduceTDiv, Int.reduceTMod, implies_true, putL, appN, appX, appC, Eng.Fi, reduceCtorEq, exists_eq_left', exists_eq_left, if_true, if_false, List.replicate, Nat.reduceAdd, Nat.reduceSub, Nat.reduceMul, Nat.reduceLeDiff, Nat.reduceLT, Nat.reduceEqDiff]
    refine Cor.lp (addC_good g125 (addC_good g67 (noC_good _))) (noHx_good _) hm (S69i l d g i) (fun p => i < p.1 ∧ p.1 ≤ l.length ∧ refS g l d = (pairsF d (i + 1) (l.drop (i + 1))).foldl (stC (chgB g) l) ((filK d l[i] i p.1 (l.drop p.1)).foldl (stC (chgB g) l) p.2)) (fun p => l.length - p.1) (a := (i + 1, c)) ⟨Nat.lt_succ_self _, h, hf⟩ (Wkn.to ⟨0, [(0, 0), (1, 1)], [], 2, [0, 1, 2, 6, 8, 9, 10, 11]⟩ rfl rfl (by simp only [Wk.st, keepT, sub1, subs, Wk.hp, ABlk.sub, free_G, S69i]; try rfl)) ?_
    rintro f2 ⟨k, c⟩ ⟨hik, hk, hf⟩ go2
    simp only at hik hk hf
    rcases Nat.lt_or_ge k l.length with h2 | h2
    · have c1 : decide ((k : Int) < (l.length : Int)) = true := by simp; omega
      have c2 : (l.map eG)[k]? = some (eG l[k]) := by simp [h2]
      have c3 : IntKind.wrap .i64 ((k : Int) + 1) = ((k + 1 : Nat) : Int) := by rw [wrap64 (by omega) (by omega)]; rfl
      have sk := hl.2 l[k] (by simp)
      have y := x67 l i k h h2 hl
      have hk0 : decide (¬ (k : Int) = 0) = true := by simp; omega
      have hst : stC (chgB g) l c (i, k) = if c.to = 0 ∨ c.lo < (chgB g l[i] l[k]).1 then ⟨i, k, (chgB g l[i] l[k]).1, (chgB g l[i] l[k]).2⟩ else c := by
        simp only [stC, List.getElem?_eq_getElem h, List.getElem?_eq_getElem h2]
      have y2 : smB (lossG l[i] l[k]).1 ∧ smB (lossG l[i] l[k]).2 := by
        unfold sG at si sk; unfold smB lossG; simp only; omega
      have y3 := x125 (lossG l[i] l[k]).1 (lossG l[i] l[k]).2 (by simp only [eq_iff_iff, iff_true]; exact y2)
      have n1 : -(lossG l[i] l[k]).2 = (gainG l[i] l[k]).1 := by simp only [lossG, gainG]; omega
      have n2 : -(lossG l[i] l[k]).1 = (gainG l[i] l[k]).2 := by simp only [lossG, gainG]; omega
      unfold sG at si sk
      have c4 : IntKind.wrap .i64 (l[k].at' - l[i].at') = l[k].at' - l[i].at' := wrap64 (by omega) (by omega)
      rw [List.drop_eq_getElem_cons h2, filK] at hf
      by_cases hle : l[k].at' - l[i].at' ≤ d
      · have hle' : (d < l[k].at' - l[i].at') = False := by simp only [eq_iff_iff, iff_false]; omega
        rw [if_pos hle, List.foldl_cons, hst] at hf
        by_cases hz : c.to = 0
        · rw [if_pos (.inl hz)] at hf
          cases g
          · simp +contextual -implicitDefEqProofs (maxSteps := 2000000) only [S69i, c1, c2, c3, c4, e2, hle', hz, y, List.length_map, not_true_eq_false, not_false_eq_true, ruB, rh_no, Int.reduceLT, Int.reduceLE, Int.reduceAdd, Int.reduceSub, Int.reduceMul, Int.reduceNeg, Int.reduceToNat, Int.reduceEq, Int.reduceNe, Int.reduceTDiv, Int.reduceTMod, implies_true, putL, appN, appX, appC, Eng.Fi, reduceCtorEq, exists_eq_left', exists_eq_left, if_true, if_false, List.replicate, Nat.reduceAdd, Nat.reduceSub, Nat.reduceMul, Nat.reduceLeDiff, Nat.reduceLT, Nat.reduceEqDiff]
            exact go2 _ (k + 1, _) ⟨by simp only; omega, h2, hf⟩ (by simp only; omega) (Wkn.to ⟨0, [(0, 0), (1, 1)], [], 2, [0, 1, 2, 6, 8, 9, 10, 11]⟩ rfl rfl (by simp only [Wk.st, keepT, sub1, subs, Wk.hp, ABlk.sub, free_G, S69i, hk0, chgB, Bool.false_eq_true, if_false]; try rfl))
          · simp +contextual -implicitDefEqProofs (maxSteps := 2000000) only [S69i, c1, c2, c3, c4, e2, hle', hz, y, y3, n1, n2, List.length_map, not_true_eq_false, not_false_eq_true, ruB, rh_no, Int.reduceLT, Int.reduceLE, Int.reduceAdd, Int.reduceSub, Int.reduceMul, Int.reduceNeg, Int.reduceToNat, Int.reduceEq, Int.reduceNe, Int.reduceTDiv, Int.reduceTMod, implies_true, putL, appN, appX, appC, Eng.Fi, reduceCtorEq, exists_eq_left', exists_eq_left, if_true, if_false, List.replicate, Nat.reduceAdd, Nat.reduceSub, Nat.reduceMul, Nat.reduceLeDiff, Nat.reduceLT, Nat.reduceEqDiff]
            exact go2 _ (k + 1, _) ⟨by simp only; omega, h2, hf⟩ (by simp only; omega) (Wkn.to ⟨0, [(0, 0), (1, 1)], [], 2, [0, 1, 2, 6, 8, 9, 10, 11]⟩ rfl rfl (by simp only [Wk.st, keepT, sub1, subs, Wk.hp, ABlk.sub, free_G, S69i, hk0, chgB, if_true]; try rfl))
        · by_cases hlt : c.lo < (chgB g l[i] l[k]).1
          · rw [if_pos (.inr hlt)] at hf
            cases g
            · have hlt' : c.lo < (lossG l[i] l[k]).1 := hlt
              simp +contextual -implicitDefEqProofs (maxSteps := 2000000) only [S69i, c1, c2, c3, c4, e2, hle', hz, hlt', y, List.length_map, not_true_eq_false, not_false_eq_true, ruB, rh_no, Int.reduceLT, Int.reduceLE, Int.reduceAdd, Int.reduceSub, Int.reduceMul, Int.reduceNeg, Int.reduceToNat, Int.reduceEq, Int.reduceNe, Int.reduceTDiv, Int.reduceTMod, implies_true, putL, appN, appX, appC, Eng.Fi, reduceCtorEq, exists_eq_left', exists_eq_left, if_true, if_false, List.replicate, Nat.reduceAdd, Nat.reduceSub, Nat.reduceMul, Nat.reduceLeDiff, Nat.reduceLT, Nat.reduceEqDiff]
              exact go2 _ (k + 1, _) ⟨by simp only; omega, h2, hf⟩ (by simp only; omega) (Wkn.to ⟨0, [(0, 0), (1, 1)], [], 2, [0, 1, 2, 6, 8, 9, 10, 11]⟩ rfl rfl (by simp only [Wk.st, keepT, sub1, subs, Wk.hp, ABlk.sub, free_G, S69i, hk0, chgB, Bool.false_eq_true, if_false]; try rfl))
            · have hlt' : c.lo < (gainG l[i] l[k]).1 := hlt
              simp +contextual -implicitDefEqProofs (maxSteps := 2000000) only [S69i, c1, c2, c3, c4, e2, hle', hz, hlt', y, y3, n1, n2, List.length_map, not_true_eq_false, not_false_eq_true, ruB, rh_no, Int.reduceLT, Int.reduceLE, Int.reduceAdd, Int.reduceSub, Int.reduceMul, Int.reduceNeg, Int.reduceToNat, Int.reduceEq, Int.reduceNe, Int.reduceTDiv, Int.reduceTMod, implies_true, putL, appN, appX, appC, Eng.Fi, reduceCtorEq, exists_eq_left', exists_eq_left, if_true, if_false, List.replicate, Nat.reduceAdd, Nat.reduceSub, Nat.reduceMul, Nat.reduceLeDiff, Nat.reduceLT, Nat.reduceEqDiff]
              exact go2 _ (k + 1, _) ⟨by simp only; omega, h2, hf⟩ (by simp only; omega) (Wkn.to ⟨0, [(0, 0), (1, 1)], [], 2, [0, 1, 2, 6, 8, 9, 10, 11]⟩ rfl rfl (by simp only [Wk.st, keepT, sub1, subs, Wk.hp, ABlk.sub, free_G, S69i, hk0, chgB, if_true]; try rfl))
          · rw [if_neg (fun x => x.elim hz hlt)] at hf
            have hz' : decide (¬ c.to = 0) = true := by simp [hz]
            cases g
            · have hlt' : (c.lo < (lossG l[i] l[k]).1) = False := by simp only [eq_iff_iff, iff_false]; exact hlt
              simp +contextual -implicitDefEqProofs (maxSteps := 2000000) only [S69i, c1, c2, c3, c4, e2, hle', hz, hlt', y, List.length_map, not_true_eq_false, not_false_eq_true, ruB, rh_no, Int.reduceLT, Int.reduceLE, Int.reduceAdd, Int.reduceSub, Int.reduceMul, Int.reduceNeg, Int.reduceToNat, Int.reduceEq, Int.reduceNe, Int.reduceTDiv, Int.reduceTMod, implies_true, putL, appN, appX, appC, Eng.Fi, reduceCtorEq, exists_eq_left', exists_eq_left, if_true, if_false, List.replicate, Nat.reduceAdd, Nat.reduceSub, Nat.reduceMul, Nat.reduceLeDiff, Nat.reduceLT, Nat.reduceEqDiff]
              exact go2 _ (k + 1, c) ⟨by simp only; omega, h2, hf⟩ (by simp only; omega) (Wkn.to ⟨0, [(0, 0), (1, 1)], [], 2, [0, 1, 2, 6, 8, 9, 10, 11]⟩ rfl rfl (by simp only [Wk.st, keepT, sub1, subs, Wk.hp, ABlk.sub, free_G, S69i, hz']; try rfl))
            · have hlt' : (c.lo < (gainG l[i] l[k]).1) = False := by simp only [eq_iff_iff, iff_false]; exact hlt
              simp +contextual -implicitDefEqProofs (maxSteps := 2000000) only [S69i, c1, c2, c3, c4, e2, hle', hz, hlt', y, y3, n1, n2, List.length_map, not_true_eq_false, not_false_eq_true, ruB, rh_no, Int.reduceLT, Int.reduceLE, Int.reduceAdd, Int.reduceSub, Int.reduceMul, Int.reduceNeg, Int.reduceToNat, Int.reduceEq, Int.reduceNe, Int.reduceTDiv, Int.reduceTMod, implies_true, putL, appN, appX, appC, Eng.Fi, reduceCtorEq, exists_eq_left', exists_eq_left, if_true, if_false, List.replicate, Nat.reduceAdd, Nat.reduceSub, Nat.reduceMul, Nat.reduceLeDiff, Nat.reduceLT, Nat.reduceEqDiff]
              exact go2 _ (k + 1, c) ⟨by simp only; omega, h2, hf⟩ (by simp only; omega) (Wkn.to ⟨0, [(0, 0), (1, 1)], [], 2, [0, 1, 2, 6, 8, 9, 10, 11]⟩ rfl rfl (by simp only [Wk.st, keepT, sub1, subs, Wk.hp, ABlk.sub, free_G, S69i, hz']; try rfl))
      · have hle' : (d < l[k].at' - l[i].at') = True := by simp only [eq_iff_iff, iff_true]; omega
        rw [if_neg hle] at hf
        simp +contextual -implicitDefEqProofs (maxSteps := 2000000) only [S69i, c1, c2, c3, c4, e2, hle', List.length_map, ruB, rh_no, Int.reduceLT, Int.reduceLE, Int.reduceAdd, Int.reduceSub, Int.reduceMul, Int.reduceNeg, Int.reduceToNat, Int.reduceEq, Int.reduceNe, Int.reduceTDiv, Int.reduceTMod, implies_true, putL, appN, appX, appC, Eng.Fi, reduceCtorEq, exists_eq_left', exists_eq_left, if_true, if_false, List.replicate, Nat.reduceAdd, Nat.reduceSub, Nat.reduceMul, Nat.reduceLeDiff, Nat.reduceLT, Nat.reduceEqDiff]
        exact go2 _ (k + 1, c) ⟨by simp only; omega, h2, hf⟩ (by simp only; omega) (Wkn.to ⟨0, [(0, 0), (1, 1)], [], 2, [0, 1, 2, 6, 8, 9, 10, 11]⟩ rfl rfl (by simp only [Wk.st, keepT, sub1, subs, Wk.hp, ABlk.sub, free_G, S69i]; try rfl))
    · have c1 : decide ((k : Int) < (l.length : Int)) = false := by simp; omega
      rw [List.drop_eq_nil_of_le h2] at hf
      simp +contextual -implicitDefEqProofs (maxSteps := 2000000) only [S69i, c1, e3, List.length_map, ruB, rh_no, Int.reduceLT, Int.reduceLE, Int.reduceAdd, Int.reduceSub, Int.reduceMul, Int.reduceNeg, Int.reduceToNat, Int.reduceEq, Int.reduceNe, Int.reduceTDiv, Int.reduceTMod, implies_true, putL, appN, appX, appC, Eng.Fi, reduceCtorEq, exists_eq_left', exists_eq_left, if_true, if_false, List.replicate, Nat.reduceAdd, Nat.reduceSub, Nat.reduceMul, Nat.reduceLeDiff, Nat.reduceLT, Nat.reduceEqDiff]
      exact go _ (i + 1, c) ⟨h, hf⟩ (by simp only; omega) (Wkn.to ⟨0, [(0, 0), (1, 1)], [], 2, [0, 1, 2, 6, 8, 9, 10]⟩ rfl rfl (by simp only [Wk.st, keepT, sub1, subs, Wk.hp, ABlk.sub, free_G, S69]; try rfl))
  · have e1 : decide ((i : Int) < (l.length : Int)) = false := by simp; omega
    rw [List.drop_eq_nil_of_le h] at hf
    simp +contextual -implicitDefEqProofs (maxSteps := 2000000) only [S69, e1, List.length_map, ruB, rh_no, Int.reduceLT, Int.reduceLE, Int.reduceAdd, Int.reduceSub, Int.reduceMul, Int.reduceNeg, Int.reduceToNat, Int.reduceEq, Int.reduceNe, Int.reduceTDiv, Int.reduceTMod, implies_true, putL, appN, appX, appC, Eng.Fi, reduceCtorEq, exists_eq_left', exists_eq_left, if_true, if_false, List.replicate, Nat.reduceAdd, Nat.reduceSub, Nat.reduceMul, Nat.reduceLeDiff, Nat.reduceLT, Nat.reduceEqDiff]
    rw [hf]; rfl
def c69f : List AV → Option AV
  | [.vs vals, .int .i64 d, .bool g] => onL dG vals fun l => if okS l then some (.tup [eC (refS g l d), B (decide (¬ (refS g l d).to = 0))]) else none
  | _ => none
theorem g69 : Fn P 69 c69f := fun args v h => by
  unfold c69f at h; split at h
  · obtain ⟨l, rfl, h2⟩ := onL_inv dG_inv h
    split at h2
    · rename_i hc; cases h2; exact k69 l _ _ hc
    · cases h2
  · cases h
theorem x69 (l : List Gt) (d : Int) (g : Bool) (h : okS l) : c69f [.vs (l.map eG), .int .i64 d, .bool g] = some (.tup [eC (refS g l d), B (decide (¬ (refS g l d).to = 0))]) := by
  simp only [c69f, onL_map dG_e, h, if_true]

/-! the possible loss of the reference -/
def stM (l : List Gt) (m : Int × Bool) (p : Nat × Nat) : Int × Bool := if m.2 = false ∨ m.1 < hiP l p then (hiP l p, true) else m
def refM (l : List Gt) (d : Int) : Int × Bool := (pairsF d 0 l).foldl (stM l) (0, false)
def S70 (l : List Gt) (d : Int) (p : Nat × Int × Bool) : AState := ⟨[.vs (l.map eG), I d, .any, .any, .any, .any, I p.2.1, B p.2.2, I p.1, .any, .any, .any, .any, .any, .any, .any, .any, .any, .any, .any, .any, .any, .any, .any, .any, .any, .any, .any, .any, .any, .any, .any, .any, .any, .any, .any, .any, .any, .any, .any, .any, .any, .any, .any, .any, .any, .any, .any, .any, .any, .any, .any, .any, .any, .any], [], 0⟩
def S70i (l : List Gt) (d : Int) (i : Nat) (p : Nat × Int × Bool) : AState := ⟨[.vs (l.map eG), I d, .any, .any, .any, .any, I p.2.1, B p.2.2, I i, I p.1, .any, .any, .any, .any, .any, .any, .any, .any, .any, .any, .any, .any, .any, .any, .any, .any, .any, .any, .any, .any, .any, .any, .any, .any, .any, .any, .any, .any, .any, .any, .any, .any, .any, .any, .any, .any, .any, .any, .any, .any, .any, .any, .any, .any, .any], [], 0⟩
theorem k70 (l : List Gt) (d : Int) (hl : okS l) : FOk P 70 [.vs (l.map eG), I d] (.tup [I (refM l d).1, B (refM l d).2]) := by
  have hlen := hl.1
  refine c70.fok (by simp only [subs, sub1, free_G]) (Cor.run (addC_good g67 (noC_good _)) (noHx_good _) hm ?_)
  simp +contextual -implicitDefEqProofs (maxSteps := 2000000) only [bg_eq, a70, ruB, rh_no, Int.reduceLT, Int.reduceLE, Int.reduceAdd, Int.reduceSub, Int.reduceMul, Int.reduceNeg, Int.reduceToNat, Int.reduceEq, Int.reduceNe, Int.reduceTDiv, Int.reduceTMod, implies_true, putL, appN, appX, appC, Eng.Fi, reduceCtorEq, exists_eq_left', exists_eq_left, if_true, if_false, List.replicate, Nat.reduceAdd, Nat.reduceSub, Nat.reduceMul, Nat.reduceLeDiff, Nat.reduceLT, Nat.reduceEqDiff]
  refine Cor.lp (addC_good g67 (noC_good _)) (noHx_good _) hm (S70 l d) (fun p => p.1 ≤ l.length ∧ refM l d = (pairsF d p.1 (l.drop p.1)).foldl (stM l) p.2) (fun p => l.length - p.1) (a := (0, 0, false)) ⟨Nat.zero_le _, rfl⟩ (Wkn.keep [0, 1, 6, 7, 8] rfl) ?_
  rintro f ⟨i, c⟩ ⟨hi, hf⟩ go
  simp only at hi hf
  rcases Nat.lt_or_ge i l.length with h | h
  · have e1 : decide ((i : Int) < (l.length : Int)) = true := by simp; omega
    have e2 : (l.map eG)[i]? = some (eG l[i]) := by simp [h]
    have e3 : IntKind.wrap .i64 ((i : Int) + 1) = ((i + 1 : Nat) : Int) := by rw [wrap64 (by omega) (by omega)]; rfl
    have si := hl.2 l[i] (by simp)
    rw [List.drop_eq_getElem_cons h, pairsF, List.foldl_append] at hf
    simp +contextual -implicitDefEqProofs (maxSteps := 2000000) only [S70, e1, e3, List.length_map, ruB, rh_no, Int.reduceLT, Int.reduceLE, Int.reduceAdd, Int.reduceSub, Int.reduceMul, Int.reduceNeg, Int.reduceToNat, Int.reduceEq, Int.reduceNe, Int.reduceTDiv, Int.reduceTMod, implies_true, putL, appN, appX, appC, Eng.Fi, reduceCtorEq, exists_eq_left', exists_eq_left, if_true, if_false, List.replicate, Nat.reduceAdd, Nat.reduceSub, Nat.reduceMul, Nat.reduceLeDiff, Nat.reduceLT, Nat.reduceEqDiff]
    refine Cor.lp (addC_good g67 (noC_good _)) (noHx_good _) hm (S70i l d i) (fun p => i < p.1 ∧ p.1 ≤ l.length ∧ refM l d = (pairsF d (i + 1) (l.drop (i + 1))).foldl (stM l) ((filK d l[i] i p.1 (l.drop p.1)).foldl (stM l) p.2)) (fun p => l.length - p.1) (a := (i + 1, c)) ⟨Nat.lt_succ_self _, h, hf⟩ (Wkn.keep [0, 1, 6, 7, 8, 9] rfl) ?_
    rintro f2 ⟨k, m, b⟩ ⟨hik, hk, hf⟩ go2
    simp only at hik hk hf
    rcases Nat.lt_or_ge k l.length with h2 | h2
    · have c1 : decide ((k : Int) < (l.length : Int)) = true := by simp; omega
      have c2 : (l.map eG)[k]? = some (eG l[k]) := by simp [h2]
      have c3 : IntKind.wrap .i64 ((k : Int) + 1) = ((k + 1 : Nat) : Int) := by rw [wrap64 (by omega) (by omega)]; rfl
      have sk := hl.2 l[k] (by simp)
      have y := x67 l i k h h2 hl
      have hst : stM l (m, b) (i, k) = if b = false ∨ m < (lossG l[i] l[k]).2 then ((lossG l[i] l[k]).2, true) else (m, b) := by
        simp only [stM, hiP, List.getElem?_eq_getElem h, List.getElem?_eq_getElem h2, lossG]
        rfl
      unfold sG at si sk
      have c4 : IntKind.wrap .i64 (l[k].at' - l[i].at') = l[k].at' - l[i].at' := wrap64 (by omega) (by omega)
      rw [List.drop_eq_getElem_cons h2, filK] at hf
      by_cases hle : l[k].at' - l[i].at' ≤ d
      · rw [if_pos hle, List.foldl_cons, hst] at hf
        cases b
        · rw [if_pos (.inl rfl)] at hf
          simp +contextual -implicitDefEqProofs (maxSteps := 2000000) only [S70i, c1, c2, c3, c4, e2, hle, y, List.length_map, not_true_eq_false, not_false_eq_true, ruB, rh_no, Int.reduceLT, Int.reduceLE, Int.reduceAdd, Int.reduceSub, Int.reduceMul, Int.reduceNeg, Int.reduceToNat, Int.reduceEq, Int.reduceNe, Int.reduceTDiv, Int.reduceTMod, implies_true, putL, appN, appX, appC, Eng.Fi, reduceCtorEq, exists_eq_left', exists_eq_left, if_true, if_false, List.replicate, Nat.reduceAdd, Nat.reduceSub, Nat.reduceMul, Nat.reduceLeDiff, Nat.reduceLT, Nat.reduceEqDiff]
          exact go2 _ (k + 1, _) ⟨by simp only; omega, h2, hf⟩ (by simp only; omega) (Wkn.keep [0, 1, 6, 7, 8, 9] rfl)
        · by_cases hlt : m < (lossG l[i] l[k]).2
          · rw [if_pos (.inr hlt)] at hf
            simp +contextual -implicitDefEqProofs (maxSteps := 2000000) only [S70i, c1, c2, c3, c4, e2, hle, hlt, y, List.length_map, not_true_eq_false, not_false_eq_true, ruB, rh_no, Int.reduceLT, Int.reduceLE, Int.reduceAdd, Int.reduceSub, Int.reduceMul, Int.reduceNeg, Int.reduceToNat, Int.reduceEq, Int.reduceNe, Int.reduceTDiv, Int.reduceTMod, implies_true, putL, appN, appX, appC, Eng.Fi, reduceCtorEq, exists_eq_left', exists_eq_left, if_true, if_false, List.replicate, Nat.reduceAdd, Nat.reduceSub, Nat.reduceMul, Nat.reduceLeDiff, Nat.reduceLT, Nat.reduceEqDiff]
            exact go2 _ (k + 1, _) ⟨by simp only; omega, h2, hf⟩ (by simp only; omega) (Wkn.keep [0, 1, 6, 7, 8, 9] rfl)
          · rw [if_neg (fun x => x.elim (fun y => by cases y) hlt)] at hf
            simp +contextual -implicitDefEqProofs (maxSteps := 2000000) only [S70i, c1, c2, c3, c4, e2, hle, hlt, y, List.length_map, not_true_eq_false, not_false_eq_true, ruB, rh_no, Int.reduceLT, Int.reduceLE, Int.reduceAdd, Int.reduceSub, Int.reduceMul, Int.reduceNeg, Int.reduceToNat, Int.reduceEq, Int.reduceNe, Int.reduceTDiv, Int.reduceTMod, implies_true, putL, appN, appX, appC, Eng.Fi, reduceCtorEq, exists_eq_left', exists_eq_left, if_true, if_false, List.replicate, Nat.reduceAdd, Nat.reduceSub, Nat.reduceMul, Nat.reduceLeDiff, Nat.reduceLT, Nat.reduceEqDiff]
            exact go2 _ (k + 1, m, true) ⟨by simp only; omega, h2, hf⟩ (by simp only; omega) (Wkn.keep [0, 1, 6, 7, 8, 9] rfl)
      · rw [if_neg hle] at hf
        simp +contextual -implicitDefEqProofs (maxSteps := 2000000) only [S70i, c1, c2, c3, c4, e2, hle, y, List.length_map, ruB, rh_no, Int.reduceLT, Int.reduceLE, Int.reduceAdd, Int.reduceSub, Int.reduceMul, Int.reduceNeg, Int.reduceToNat, Int.reduceEq, Int.reduceNe, Int.reduceTDiv, Int.reduceTMod, implies_true, putL, appN, appX, appC, Eng.Fi, reduceCtorEq, exists_eq_left', exists_eq_left, if_true, if_false, List.replicate, Nat.reduceAdd, Nat.reduceSub, Nat.reduceMul, Nat.reduceLeDiff, Nat.reduceLT, Nat.reduceEqDiff]
        exact go2 _ (k + 1, m, b) ⟨by simp only; omega, h2, hf⟩ (by simp only; omega) (Wkn.keep [0, 1, 6, 7, 8, 9] rfl)
    · have c1 : decide ((k : Int) < (l.length : Int)) = false := by simp; omega
      rw [List.drop_eq_nil_of_le h2] at hf
      simp +contextual -implicitDefEqProofs (maxSteps := 2000000) only [S70i, c1, e3, List.length_map, ruB, rh_no, Int.reduceLT, Int.reduceLE, Int.reduceAdd, Int.reduceSub, Int.reduceMul, Int.reduceNeg, Int.reduceToNat, Int.reduceEq, Int.reduceNe, Int.reduceTDiv, Int.reduceTMod, implies_true, putL, appN, appX, appC, Eng.Fi, reduceCtorEq, exists_eq_left', exists_eq_left, if_true, if_false, List.replicate, Nat.reduceAdd, Nat.reduceSub, Nat.reduceMul, Nat.reduceLeDiff, Nat.reduceLT, Nat.reduceEqDiff]
      exact go _ (i + 1, m, b) ⟨h, hf⟩ (by simp only; omega) (Wkn.keep [0, 1, 6, 7, 8] rfl)
  · have e1 : decide ((i : Int) < (l.length : Int)) = false := by simp; omega
    rw [List.drop_eq_nil_of_le h] at hf
    simp +contextual -implicitDefEqProofs (maxSteps := 2000000) only [S70, e1, List.length_map, ruB, rh_no, Int.reduceLT, Int.reduceLE, Int.reduceAdd, Int.reduceSub, Int.reduceMul, Int.reduceNeg, Int.reduceToNat, Int.reduceEq, Int.reduceNe, Int.reduceTDiv, Int.reduceTMod, implies_true, putL, appN, appX, appC, Eng.Fi, reduceCtorEq, exists_eq_left', exists_eq_left, if_true, if_false, List.replicate, Nat.reduceAdd, Nat.reduceSub, Nat.reduceMul, Nat.reduceLeDiff, Nat.reduceLT, Nat.reduceEqDiff]
    rw [hf]; rfl
def c70f : List AV → Option AV
  | [.vs vals, .int .i64 d] => onL dG vals fun l => if okS l then some (.tup [I (refM l d).1, B (refM l d).2]) else none
  | _ => none
theorem g70 : Fn P 70 c70f := fun args v h => by
  unfold c70f at h; split at h
  · obtain ⟨l, rfl, h2⟩ := onL_inv dG_inv h
    split at h2
    · rename_i hc; cases h2; exact k70 l _ hc
    · cases h2
  · cases h
theorem x70 (l : List Gt) (d : Int) (h : (okS l) = True) : c70f [.vs (l.map eG), .int .i64 d] = some (.tup [I (refM l d).1, B (refM l d).2]) := by
  simp only [c70f, onL_map dG_e, h, if_true]

/-! the reference and the program agree -/
theorem refS_L {l : List Gt} {d : Int} {last : Int} (h : As last l) : refS false l d = (pairsL d 0 l).foldl (stC lossG l) ⟨0, 0, 0, 0⟩ ∧ refS true l d = (pairsL d 0 l).foldl (stC gainG l) ⟨0, 0, 0, 0⟩ := by
  rw [refS, refS, pairsF_eq h]; exact ⟨rfl, rfl⟩
theorem stM_some {l : List Gt} : ∀ (L : List (Nat × Nat)) (m : Int), L.foldl (stM l) (m, true) = ((L.map (hiP l)).foldl max m, true)
  | [], m => rfl
  | p :: L, m => by
    rw [List.foldl_cons, List.map_cons, List.foldl_cons]
    have : stM l (m, true) p = (max m (hiP l p), true) := by
      simp only [stM, Bool.true_eq_false, false_or]
      split
      · rw [Int.max_eq_right (by omega)]
      · rw [Int.max_eq_left (by omega)]
    rw [this, stM_some L]
theorem refM_L {l : List Gt} {d : Int} {last : Int} (h : As last l) : refM l d = if pairsL d 0 l = [] then (0, false) else (maxL ((pairsL d 0 l).map (hiP l)), true) := by
  rw [refM, pairsF_eq h]
  cases hL : pairsL d 0 l with
  | nil => rfl
  | cons p L =>
    rw [if_neg (by simp), List.foldl_cons, List.map_cons]
    show L.foldl (stM l) (hiP l p, true) = _
    rw [stM_some]; rfl
/-- all that is said of a profile and a length -/
theorem prof_ok {l : List Gt} {d : Int} (h0 : lenE l d = 0) : (strL lossG l d = (⟨0, 0, 0, 0⟩, 12) ∧ strL gainG l d = (⟨0, 0, 0, 0⟩, 12) ∧ possL l d = (0, 12) ∧ (refS false l d).to = 0) ∨
    (strL lossG l d = (refS false l d, 0) ∧ strL gainG l d = (refS true l d, 0) ∧ possL l d = ((refM l d).1, 0) ∧ ¬ (refS false l d).to = 0 ∧ ¬ (refS true l d).to = 0) := by
  have hA := chkP_As (lenE_zero h0).1
  obtain ⟨r1, r2⟩ := refS_L (d := d) hA
  have r3 := refM_L (d := d) hA
  by_cases hp : pairsL d 0 l = []
  · left
    rcases strL_best (chg := lossG) h0 with ⟨_, h1⟩ | ⟨h1, _⟩
    · rcases strL_best (chg := gainG) h0 with ⟨_, h2⟩ | ⟨h2, _⟩
      · refine ⟨h1, h2, by simp only [possL, h0, if_true, hp], ?_⟩
        rw [r1, hp]; rfl
      · exact absurd hp h2
    · exact absurd hp h1
  · right
    rcases strL_best (chg := lossG) h0 with ⟨h1, _⟩ | ⟨_, c, h1, hB⟩
    · exact absurd h1 hp
    · rcases strL_best (chg := gainG) h0 with ⟨h2, _⟩ | ⟨_, c', h2, hB'⟩
      · exact absurd h2 hp
      · have e1 : (pairsL d 0 l).foldl (stC lossG l) ⟨0, 0, 0, 0⟩ = c := by
          have := congrArg Prod.fst h1
          simpa only [strL, h0, if_true] using this
        have e2 : (pairsL d 0 l).foldl (stC gainG l) ⟨0, 0, 0, 0⟩ = c' := by
          have := congrArg Prod.fst h2
          simpa only [strL, h0, if_true] using this
        rw [r1, r2, e1, e2]
        refine ⟨h1, h2, ?_, ?_, ?_⟩
        · rw [r3]; simp only [possL, h0, if_true, if_neg hp]
        · obtain ⟨i, k, a, b, hp, rfl, _⟩ := hB
          have := hp.1; simp only; omega
        · obtain ⟨i, k, a, b, hp, rfl, _⟩ := hB'
          have := hp.1; simp only; omega
end Sh
