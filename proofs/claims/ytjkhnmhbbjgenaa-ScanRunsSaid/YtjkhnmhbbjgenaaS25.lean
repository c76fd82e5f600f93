import Derived.Test.YtjkhnmhbbjgenaaEngS9
import Derived.Test.YtjkhnmhbbjgenaaS24
open Go Go.Proofs Eng
set_option maxRecDepth 100000
set_option linter.unusedSimpArgs false
set_option linter.unusedVariables false
def a13 : AC := .seq (.ops false [] [⟨some 3, .box 42 7 1 true, [.t 0], none⟩, ⟨some 4, .box 37 2 1 true, [.t 1], none⟩, ⟨some 5, .box 37 2 1 true, [.t 2], none⟩, ⟨some 6, .p (.mov), [.c (.bool false)], none⟩]) (.seq (.seq (.ops false [] [⟨some 15, .call 15, [], none⟩, ⟨some 16, .p (.notB), [.t 15], none⟩]) (.cond (.t 16) (.seq (.ops false [] [⟨some 6, .p (.mov), [.c (.bool false)], none⟩]) (.ret)) (.skip))) (.seq (.seq (.ops false [] [⟨some 17, .load 7 true, [.t 3], none⟩, ⟨some 18, .call 23, [.t 17], none⟩, ⟨some 19, .p (.notB), [.t 18], none⟩]) (.cond (.t 19) (.seq (.ops false [] [⟨some 6, .p (.mov), [.c (.bool true)], none⟩]) (.ret)) (.skip))) (.seq (.ops false [] [⟨some 21, .load 2 true, [.t 4], none⟩, ⟨some 22, .load 2 true, [.t 5], none⟩, ⟨some 23, .call 67, [.t 21, .t 22], none⟩, ⟨some 20, .p (.mov), [.t 23], none⟩, ⟨some 24, .p (.ext 0), [.t 20], none⟩, ⟨some 25, .p (.ext 1), [.t 20], none⟩, ⟨some 7, .p (.mov), [.t 24], none⟩, ⟨some 8, .p (.mov), [.t 25], none⟩]) (.seq (.ops true [] [⟨some 27, .load 7 true, [.t 3], none⟩, ⟨some 28, .call 25, [.t 27], none⟩, ⟨some 29, .load 2 true, [.t 4], none⟩, ⟨some 30, .load 2 true, [.t 5], none⟩, ⟨some 31, .call 47, [.t 28, .t 29, .t 30], none⟩, ⟨some 26, .p (.mov), [.t 31], none⟩, ⟨some 32, .p (.ext 0), [.t 26], none⟩, ⟨some 33, .p (.ext 1), [.t 26], none⟩, ⟨some 9, .p (.mov), [.t 32], none⟩, ⟨some 10, .p (.mov), [.t 33], none⟩]) (.seq (.ops true [] [⟨some 35, .load 7 true, [.t 3], none⟩, ⟨some 36, .call 25, [.t 35], none⟩, ⟨some 37, .load 2 true, [.t 4], none⟩, ⟨some 38, .load 2 true, [.t 5], none⟩, ⟨some 39, .call 48, [.t 36, .t 37, .t 38], none⟩, ⟨some 34, .p (.mov), [.t 39], none⟩, ⟨some 40, .p (.ext 0), [.t 34], none⟩, ⟨some 41, .p (.ext 1), [.t 34], none⟩, ⟨some 11, .p (.mov), [.t 40], none⟩, ⟨some 12, .p (.mov), [.t 41], none⟩]) (.seq (.ops false [] [⟨some 42, .load 2 true, [.t 4], none⟩, ⟨some 43, .call 44, [.t 42], none⟩, ⟨some 13, .p (.mov), [.t 43], none⟩]) (.seq (.seq (.ops false [] [⟨some 44, .p (.mov), [.t 13], none⟩, ⟨some 45, .p (.binI .eql), [.t 44, .c (.int .i64 0)], none⟩]) (.cond (.t 45) (.ops false [] [⟨some 46, .load 2 true, [.t 5], none⟩, ⟨some 47, .call 44, [.t 46], none⟩, ⟨some 13, .p (.mov), [.t 47], none⟩]) (.skip))) (.seq (.seq (.ops false [] [⟨some 48, .p (.mov), [.t 13], none⟩, ⟨some 49, .p (.binI .neq), [.t 48, .c (.int .i64 0)], none⟩, ⟨some 50, .p (.mov), [.t 49], none⟩, ⟨some 51, .p (.mov), [.t 8], some (50, true)⟩, ⟨some 52, .p (.mov), [.t 13], some (50, true)⟩, ⟨some 53, .p (.binI .neq), [.t 51, .t 52], some (50, true)⟩, ⟨some 54, .p (.mov), [.t 53], some (50, true)⟩, ⟨some 55, .p (.mov), [.t 7], some (54, false)⟩, ⟨some 56, .p (.lenS), [.t 55], some (54, false)⟩, ⟨some 57, .p (.binI .neq), [.t 56, .c (.int .i64 0)], some (54, false)⟩, ⟨some 58, .p (.pick), [.t 54, .c (.bool true), .t 57], some (50, true)⟩, ⟨some 59, .p (.pick), [.t 50, .t 58, .c (.bool false)], none⟩, ⟨some 60, .p (.mov), [.t 59], none⟩, ⟨some 61, .p (.mov), [.t 13], some (60, false)⟩, ⟨some 62, .p (.binI .eql), [.t 61, .c (.int .i64 0)], some (60, false)⟩, ⟨some 63, .p (.mov), [.t 62], some (60, false)⟩, ⟨some 64, .p (.mov), [.t 8], some (63, true)⟩, ⟨some 65, .p (.binI .neq), [.t 64, .c (.int .i64 0)], some (63, true)⟩, ⟨some 66, .p (.mov), [.t 65], some (63, true)⟩, ⟨some 67, .p (.mov), [.t 7], some (66, false)⟩, ⟨some 68, .load 2 true, [.t 4], some (66, false)⟩, ⟨some 69, .load 2 true, [.t 5], some (66, false)⟩, ⟨some 70, .call 69, [.t 68, .t 69], some (66, false)⟩, ⟨some 71, .call 68, [.t 67, .t 70], some (66, false)⟩, ⟨some 72, .p (.notB), [.t 71], some (66, false)⟩, ⟨some 73, .p (.pick), [.t 66, .c (.bool true), .t 72], some (63, true)⟩, ⟨some 74, .p (.pick), [.t 63, .t 73, .c (.bool false)], some (60, false)⟩, ⟨some 75, .p (.pick), [.t 60, .c (.bool true), .t 74], none⟩]) (.cond (.t 75) (.seq (.ops false [] [⟨some 6, .p (.mov), [.c (.bool false)], none⟩]) (.ret)) (.skip))) (.seq (.seq (.ops false [] [⟨some 76, .load 7 true, [.t 3], none⟩, ⟨some 77, .call 28, [.t 76], none⟩, ⟨some 14, .p (.mov), [.t 77], none⟩]) (.seq (.ops false [] [⟨some 78, .p (.mov), [.t 14], none⟩, ⟨some 79, .p (.binI .neq), [.t 78, .c (.int .i64 0)], none⟩]) (.cond (.t 79) (.ops false [] [⟨some 80, .p (.mov), [.t 14], none⟩, ⟨some 13, .p (.mov), [.t 80], none⟩]) (.skip)))) (.seq (.seq (.ops false [] [⟨some 81, .p (.mov), [.t 13], none⟩, ⟨some 82, .p (.binI .neq), [.t 81, .c (.int .i64 0)], none⟩]) (.cond (.t 82) (.seq (.ops false [] [⟨some 83, .p (.mov), [.t 10], none⟩, ⟨some 84, .p (.mov), [.t 13], none⟩, ⟨some 85, .p (.binI .eql), [.t 83, .t 84], none⟩, ⟨some 86, .p (.mov), [.t 85], none⟩, ⟨some 87, .p (.mov), [.t 12], some (86, true)⟩, ⟨some 88, .p (.mov), [.t 13], some (86, true)⟩, ⟨some 89, .p (.binI .eql), [.t 87, .t 88], some (86, true)⟩, ⟨some 90, .p (.pick), [.t 86, .t 89, .c (.bool false)], none⟩, ⟨some 91, .p (.mov), [.t 90], none⟩, ⟨some 92, .p (.mov), [.t 9], some (91, true)⟩, ⟨some 93, .p (.binI .eql), [.t 92, .c (.int .i64 0)], some (91, true)⟩, ⟨some 94, .p (.pick), [.t 91, .t 93, .c (.bool false)], none⟩, ⟨some 95, .p (.mov), [.t 94], none⟩, ⟨some 96, .p (.mov), [.t 11], some (95, true)⟩, ⟨some 97, .p (.notB), [.t 96], some (95, true)⟩, ⟨some 98, .p (.pick), [.t 95, .t 97, .c (.bool false)], none⟩, ⟨some 6, .p (.mov), [.t 98], none⟩]) (.ret)) (.skip))) (.seq (.ops false [] [⟨some 99, .p (.mov), [.t 10], none⟩, ⟨some 100, .p (.binI .eql), [.t 99, .c (.int .i64 0)], none⟩, ⟨some 101, .p (.mov), [.t 100], none⟩, ⟨some 102, .p (.mov), [.t 9], some (101, true)⟩, ⟨some 103, .load 7 true, [.t 3], some (101, true)⟩, ⟨some 104, .load 2 true, [.t 4], some (101, true)⟩, ⟨some 105, .load 2 true, [.t 5], some (101, true)⟩, ⟨some 106, .call 70, [.t 103, .t 104, .t 105], some (101, true)⟩, ⟨some 107, .p (.binI .eql), [.t 102, .t 106], some (101, true)⟩, ⟨some 108, .p (.pick), [.t 101, .t 107, .c (.bool false)], none⟩, ⟨some 109, .p (.mov), [.t 108], none⟩, ⟨some 110, .p (.mov), [.t 12], some (109, true)⟩, ⟨some 111, .p (.binI .eql), [.t 110, .c (.int .i64 0)], some (109, true)⟩, ⟨some 112, .p (.pick), [.t 109, .t 111, .c (.bool false)], none⟩, ⟨some 113, .p (.mov), [.t 112], none⟩, ⟨some 114, .p (.mov), [.t 11], some (113, true)⟩, ⟨some 115, .load 7 true, [.t 3], some (113, true)⟩, ⟨some 116, .load 2 true, [.t 4], some (113, true)⟩, ⟨some 117, .load 2 true, [.t 5], some (113, true)⟩, ⟨some 118, .call 71, [.t 115, .t 116, .t 117], some (113, true)⟩, ⟨some 119, .p (.eqB false), [.t 114, .t 118], some (113, true)⟩, ⟨some 120, .p (.pick), [.t 113, .t 119, .c (.bool false)], none⟩, ⟨some 6, .p (.mov), [.t 120], none⟩]) (.ret))))))))))))
theorem c13 : FnC Try.prog 13 121 a13 [.tmp 6] := ⟨Try.call13, _, _, Try.func13, rfl, by kernel_rfl, by kernel_rfl, rfl⟩
def a68 : AC := .seq (.ops false [] [⟨some 4, .p (.mov), [.c (.bool false)], none⟩]) (.seq (.seq (.ops false [] [⟨some 6, .p (.mov), [.t 0], none⟩, ⟨some 7, .p (.lenS), [.t 6], none⟩, ⟨some 8, .p (.mov), [.t 1], none⟩, ⟨some 9, .p (.lenS), [.t 8], none⟩, ⟨some 10, .p (.binI .neq), [.t 7, .t 9], none⟩]) (.cond (.t 10) (.seq (.ops false [] [⟨some 4, .p (.mov), [.c (.bool false)], none⟩]) (.ret)) (.skip))) (.seq (.seq (.ops false [] [⟨some 5, .p (.mov), [.c (.int .i64 0)], none⟩]) (.block 0 (.loop (.seq (.seq (.ops false [] [⟨some 11, .p (.mov), [.t 5], none⟩, ⟨some 12, .p (.mov), [.t 0], none⟩, ⟨some 13, .p (.lenS), [.t 12], none⟩, ⟨some 14, .p (.binI .lss), [.t 11, .t 13], none⟩]) (.cond (.t 14) (.skip) (.exit 0))) (.seq (.block 1 (.seq (.ops true [] [⟨some 17, .p (.mov), [.t 0], none⟩, ⟨some 18, .p (.mov), [.t 5], none⟩, ⟨some 19, .p (.iaddrS 2), [.t 17, .t 18], none⟩, ⟨some 20, .load 2 true, [.t 19], none⟩, ⟨some 21, .p (.mov), [.t 1], none⟩, ⟨some 22, .p (.mov), [.t 5], none⟩, ⟨some 23, .p (.iaddrS 2), [.t 21, .t 22], none⟩, ⟨some 24, .load 2 true, [.t 23], none⟩, ⟨some 25, .p (.eqa true [.i, .i]), [.t 20, .t 24], none⟩]) (.cond (.t 25) (.seq (.ops false [] [⟨some 4, .p (.mov), [.c (.bool false)], none⟩]) (.ret)) (.skip)))) (.ops false [] [⟨some 15, .p (.mov), [.t 5], none⟩, ⟨some 16, .p (.binI .add), [.t 15, .c (.int .i64 1)], none⟩, ⟨some 5, .p (.mov), [.t 16], none⟩])))))) (.seq (.ops false [] [⟨some 4, .p (.mov), [.c (.bool true)], none⟩]) (.ret))))
theorem c68 : FnC Try.prog 68 26 a68 [.tmp 4] := ⟨Try.call68, _, _, Try.func68, rfl, by kernel_rfl, by kernel_rfl, rfl⟩
def a71 : AC := .seq (.ops false [] [⟨some 3, .box 42 7 1 true, [.t 0], none⟩, ⟨some 4, .box 37 2 1 true, [.t 1], none⟩, ⟨some 5, .box 37 2 1 true, [.t 2], none⟩, ⟨some 6, .p (.mov), [.c (.bool false)], none⟩]) (.seq (.ops false [] [⟨some 10, .load 7 true, [.t 3], none⟩, ⟨some 11, .load 2 true, [.t 4], none⟩, ⟨some 12, .load 2 true, [.t 5], none⟩, ⟨some 13, .call 85, [.t 10, .t 11, .t 12], none⟩, ⟨some 9, .p (.mov), [.t 13], none⟩, ⟨some 14, .p (.ext 0), [.t 9], none⟩, ⟨some 15, .p (.ext 1), [.t 9], none⟩, ⟨some 7, .alloc 37 2 [.agg [.int .i64 0, .int .i64 0]], [], none⟩, ⟨none, .store 2 true, [.t 7, .t 14], none⟩, ⟨some 8, .p (.mov), [.t 15], none⟩]) (.seq (.ops false [] [⟨some 16, .p (.mov), [.t 8], none⟩, ⟨some 17, .p (.notB), [.t 16], none⟩, ⟨some 6, .p (.mov), [.t 17], none⟩]) (.ret)))
theorem c71 : FnC Try.prog 71 18 a71 [.tmp 6] := ⟨Try.call71, _, _, Try.func71, rfl, by kernel_rfl, by kernel_rfl, rfl⟩
def a85 : AC := .seq (.ops false [] [⟨some 3, .box 42 7 1 true, [.t 0], none⟩, ⟨some 4, .box 37 2 1 true, [.t 1], none⟩, ⟨some 5, .box 37 2 1 true, [.t 2], none⟩, ⟨some 6, .alloc 37 2 [.agg [.int .i64 0, .int .i64 0]], [], none⟩, ⟨some 7, .p (.mov), [.c (.bool false)], none⟩]) (.seq (.ops false [] [⟨some 10, .load 2 true, [.t 4], none⟩, ⟨some 11, .load 2 true, [.t 5], none⟩, ⟨some 12, .call 69, [.t 10, .t 11], none⟩, ⟨some 8, .p (.mov), [.t 12], none⟩]) (.seq (.seq (.ops false [] [⟨some 9, .p (.mov), [.c (.int .i64 0)], none⟩]) (.block 0 (.loop (.seq (.seq (.ops false [] [⟨some 13, .p (.mov), [.t 9], none⟩, ⟨some 14, .p (.mov), [.t 8], none⟩, ⟨some 15, .p (.lenS), [.t 14], none⟩, ⟨some 16, .p (.binI .lss), [.t 13, .t 15], none⟩]) (.cond (.t 16) (.skip) (.exit 0))) (.seq (.block 1 (.seq (.ops true [] [⟨some 19, .load 7 true, [.t 3], none⟩, ⟨some 20, .p (.mov), [.t 8], none⟩, ⟨some 21, .p (.mov), [.t 9], none⟩, ⟨some 22, .p (.iaddrS 2), [.t 20, .t 21], none⟩, ⟨some 23, .load 2 true, [.t 22], none⟩, ⟨some 24, .call 45, [.t 19, .t 23], none⟩]) (.cond (.t 24) (.seq (.ops false [] [⟨some 25, .p (.mov), [.t 8], none⟩, ⟨some 26, .p (.mov), [.t 9], none⟩, ⟨some 27, .p (.iaddrS 2), [.t 25, .t 26], none⟩, ⟨some 28, .load 2 true, [.t 27], none⟩, ⟨none, .store 2 true, [.t 6, .t 28], none⟩, ⟨some 7, .p (.mov), [.c (.bool true)], none⟩]) (.ret)) (.skip)))) (.ops false [] [⟨some 17, .p (.mov), [.t 9], none⟩, ⟨some 18, .p (.binI .add), [.t 17, .c (.int .i64 1)], none⟩, ⟨some 9, .p (.mov), [.t 18], none⟩])))))) (.seq (.ops false [] [⟨some 29, .p (.build [.int .i64 0, .int .i64 0] []), [], none⟩, ⟨none, .store 2 true, [.t 6, .t 29], none⟩, ⟨some 7, .p (.mov), [.c (.bool false)], none⟩]) (.ret))))
theorem c85 : FnC Try.prog 85 30 a85 [.cell 6 2 true, .tmp 7] := ⟨Try.call85, _, _, Try.func85, rfl, by kernel_rfl, by kernel_rfl, rfl⟩
namespace Sc
def S85 (h : Hd) (l : List Dr) (n : Nat) : AState := ⟨[.any, .any, .any, .ptr 0 7 0 0, .any, .any, .ptr 1 2 0 0, .any, .vs (l.map eDr), I n, .any, .any, .any, .any, .any, .any, .any, .any, .any, .any, .any, .any, .any, .any, .any, .any, .any, .any, .any, .any], [⟨1, 1, .rows 37 2 [.agg [I 0, I 0]]⟩, ⟨0, 0, .rows 42 7 [eHd h]⟩], 2⟩
theorem k_rlit (h : Hd) (a b : Dr) (hk : liB h a b) : FOk P 85 [eHd h, eDr a, eDr b] (litV (litL h a b)) := by
  obtain ⟨hr, ha, hb⟩ := hk
  have hwl := wayL_len ha hb
  have hwd := wayL_dr ha hb
  have y := x_rWay a b (by simp only [ha, hb, and_self])
  unfold litL
  generalize wayL a b = l at *
  refine c85.fok (by simp only [free_Hs, free_Hd, subs, sub1, free_Se]) (Cor.run (addC_good g_rIsReserved (addC_good g_rWay (noC_good _))) (noHx_good _) hm ?_)
  simp +contextual -implicitDefEqProofs (maxSteps := 2000000) only [bg_eq, a85, y, ruB, rh_no, Int.reduceLT, Int.reduceLE, Int.reduceAdd, Int.reduceSub, Int.reduceMul, Int.reduceNeg, Int.reduceToNat, Int.reduceEq, Int.reduceNe, Int.reduceTDiv, Int.reduceTMod, implies_true, putL, appN, appX, appC, Eng.Fi, reduceCtorEq, exists_eq_left', exists_eq_left, if_true, if_false, List.replicate, Nat.reduceAdd, Nat.reduceSub, Nat.reduceMul, Nat.reduceLeDiff, Nat.reduceLT, Nat.reduceEqDiff]
  refine Cor.lp (addC_good g_rIsReserved (addC_good g_rWay (noC_good _))) (noHx_good _) hm (S85 h l) (fun n => n ≤ l.length ∧ l.find? (resv h.res) = (l.drop n).find? (resv h.res)) (fun n => l.length - n) (a := 0) ⟨Nat.zero_le _, rfl⟩ (Wkn.to ⟨0, [(0, 0), (3, 1)], [], 2, [3, 6, 8, 9]⟩ rfl rfl (by simp [Wk.st, keepT, memN, Wk.fate, Wk.fate0, assoc, getE, Wk.hp, ABlk.sub, sub1, subs, S85, free_Se, free_Dr])) ?_
  intro f n ⟨hn, hf⟩ go
  rcases Nat.lt_or_ge n l.length with hlt | hlt
  · have e1 : decide ((n : Int) < (l.length : Int)) = true := lt_t hlt
    have e2 : (l.map eDr)[n]? = some (eDr l[n]) := get_e eDr l hlt
    have e3 : IntKind.wrap .i64 ((n : Int) + 1) = ((n + 1 : Nat) : Int) := suc_w (by omega)
    have hd := hwd l[n] (by simp)
    rw [List.drop_eq_getElem_cons hlt, List.find?_cons] at hf
    generalize l[n] = d at *
    have yr := x_rIsReserved h d (by simp only [eq_iff_iff, iff_true]; exact ⟨hr, hd⟩)
    cases hv : resv h.res d with
    | true =>
      rw [hv] at yr hf
      simp only at hf
      rw [hf]
      simp +contextual -implicitDefEqProofs (maxSteps := 2000000) only [S85, e1, e2, e3, yr, List.length_map, litV, ruB, rh_no, Int.reduceLT, Int.reduceLE, Int.reduceAdd, Int.reduceSub, Int.reduceMul, Int.reduceNeg, Int.reduceToNat, Int.reduceEq, Int.reduceNe, Int.reduceTDiv, Int.reduceTMod, implies_true, putL, appN, appX, appC, Eng.Fi, reduceCtorEq, exists_eq_left', exists_eq_left, if_true, if_false, List.replicate, Nat.reduceAdd, Nat.reduceSub, Nat.reduceMul, Nat.reduceLeDiff, Nat.reduceLT, Nat.reduceEqDiff]
    | false =>
      rw [hv] at yr hf
      simp only at hf
      simp +contextual -implicitDefEqProofs (maxSteps := 2000000) only [S85, e1, e2, e3, yr, List.length_map, litV, ruB, rh_no, Int.reduceLT, Int.reduceLE, Int.reduceAdd, Int.reduceSub, Int.reduceMul, Int.reduceNeg, Int.reduceToNat, Int.reduceEq, Int.reduceNe, Int.reduceTDiv, Int.reduceTMod, implies_true, putL, appN, appX, appC, Eng.Fi, reduceCtorEq, exists_eq_left', exists_eq_left, if_true, if_false, List.replicate, Nat.reduceAdd, Nat.reduceSub, Nat.reduceMul, Nat.reduceLeDiff, Nat.reduceLT, Nat.reduceEqDiff]
      exact go _ (n + 1) ⟨hlt, hf⟩ (by omega) (Wkn.to ⟨0, [(0, 0), (1, 1)], [], 2, [3, 6, 8, 9]⟩ rfl rfl (by simp [Wk.st, keepT, memN, Wk.fate, Wk.fate0, assoc, getE, Wk.hp, ABlk.sub, sub1, subs, S85, free_Se, free_Dr]))
  · have e1 : decide ((n : Int) < (l.length : Int)) = false := lt_f hlt
    rw [List.drop_eq_nil_of_le hlt, List.find?_nil] at hf
    rw [hf]
    simp +contextual -implicitDefEqProofs (maxSteps := 2000000) only [S85, e1, List.length_map, litV, ruB, rh_no, Int.reduceLT, Int.reduceLE, Int.reduceAdd, Int.reduceSub, Int.reduceMul, Int.reduceNeg, Int.reduceToNat, Int.reduceEq, Int.reduceNe, Int.reduceTDiv, Int.reduceTMod, implies_true, putL, appN, appX, appC, Eng.Fi, reduceCtorEq, exists_eq_left', exists_eq_left, if_true, if_false, List.replicate, Nat.reduceAdd, Nat.reduceSub, Nat.reduceMul, Nat.reduceLeDiff, Nat.reduceLT, Nat.reduceEqDiff]
def cf_rlit : List AV → Option AV
  | [h_v, .agg [.int .i64 a_az, .int .i64 a_el], .agg [.int .i64 b_az, .int .i64 b_el]] => onH h_v fun h => if liB h (⟨a_az, a_el⟩ : Dr) (⟨b_az, b_el⟩ : Dr) then some (litV (litL h (⟨a_az, a_el⟩ : Dr) (⟨b_az, b_el⟩ : Dr))) else none
  | _ => none
theorem g_rlit : Fn P 85 cf_rlit := fun args v hh => by
  unfold cf_rlit at hh; split at hh
  · obtain ⟨h, rfl, hh1⟩ := onH_inv hh
    split at hh1
    · rename_i hc; have hk := Option.some.inj hh1; subst hk; exact k_rlit _ ⟨_, _⟩ ⟨_, _⟩ hc
    · cases hh1
  · cases hh
theorem x_rlit (h : Hd) (a : Dr) (b : Dr) (hc : (liB h a b) = True) : cf_rlit [eHd h, .agg [I a.az, I a.el], .agg [I b.az, I b.el]] = some (litV (litL h a b)) := by
  simp only [cf_rlit, onH_e]
  exact if_pos (by rw [hc]; trivial)
theorem k_rIsDark (h : Hd) (a b : Dr) (hk : liB h a b) : FOk P 71 [eHd h, eDr a, eDr b] (.bool (litL h a b).isNone) := by
  have y := x_rlit h a b (by simp only [hk])
  cases hx : litL h a b with
  | none =>
    rw [hx] at y; simp only [litV] at y
    refine c71.fok (by simp only [free_Hs, free_Hd, subs, sub1, free_Se]) (Cor.run (addC_good g_rlit (noC_good _)) (noHx_good _) hm ?_)
    simp +contextual -implicitDefEqProofs (maxSteps := 2000000) only [bg_eq, a71, y, Option.isNone_none, ruB, rh_no, Int.reduceLT, Int.reduceLE, Int.reduceAdd, Int.reduceSub, Int.reduceMul, Int.reduceNeg, Int.reduceToNat, Int.reduceEq, Int.reduceNe, Int.reduceTDiv, Int.reduceTMod, implies_true, putL, appN, appX, appC, Eng.Fi, reduceCtorEq, exists_eq_left', exists_eq_left, if_true, if_false, List.replicate, Nat.reduceAdd, Nat.reduceSub, Nat.reduceMul, Nat.reduceLeDiff, Nat.reduceLT, Nat.reduceEqDiff]
  | some x =>
    rw [hx] at y; simp only [litV] at y
    refine c71.fok (by simp only [free_Hs, free_Hd, subs, sub1, free_Se]) (Cor.run (addC_good g_rlit (noC_good _)) (noHx_good _) hm ?_)
    simp +contextual -implicitDefEqProofs (maxSteps := 2000000) only [bg_eq, a71, y, Option.isNone_some, ruB, rh_no, Int.reduceLT, Int.reduceLE, Int.reduceAdd, Int.reduceSub, Int.reduceMul, Int.reduceNeg, Int.reduceToNat, Int.reduceEq, Int.reduceNe, Int.reduceTDiv, Int.reduceTMod, implies_true, putL, appN, appX, appC, Eng.Fi, reduceCtorEq, exists_eq_left', exists_eq_left, if_true, if_false, List.replicate, Nat.reduceAdd, Nat.reduceSub, Nat.reduceMul, Nat.reduceLeDiff, Nat.reduceLT, Nat.reduceEqDiff]
def cf_rIsDark : List AV → Option AV
  | [h_v, .agg [.int .i64 a_az, .int .i64 a_el], .agg [.int .i64 b_az, .int .i64 b_el]] => onH h_v fun h => if liB h (⟨a_az, a_el⟩ : Dr) (⟨b_az, b_el⟩ : Dr) then some (.bool (litL h (⟨a_az, a_el⟩ : Dr) (⟨b_az, b_el⟩ : Dr)).isNone) else none
  | _ => none
theorem g_rIsDark : Fn P 71 cf_rIsDark := fun args v hh => by
  unfold cf_rIsDark at hh; split at hh
  · obtain ⟨h, rfl, hh1⟩ := onH_inv hh
    split at hh1
    · rename_i hc; have hk := Option.some.inj hh1; subst hk; exact k_rIsDark _ ⟨_, _⟩ ⟨_, _⟩ hc
    · cases hh1
  · cases hh
theorem x_rIsDark (h : Hd) (a : Dr) (b : Dr) (hc : (liB h a b) = True) : cf_rIsDark [eHd h, .agg [I a.az, I a.el], .agg [I b.az, I b.el]] = some (.bool (litL h a b).isNone) := by
  simp only [cf_rIsDark, onH_e]
  exact if_pos (by rw [hc]; trivial)
theorem eDr_ext (x y : Dr) : x = y ↔ (x.az = y.az ∧ x.el = y.el) := by
  cases x; cases y; simp
def SS_rSameWays (l m : List Dr) (n : Nat) : AState := ⟨[.vs (l.map eDr), .vs (m.map eDr), .any, .any, .any, I n, .any, .any, .any, .any, .any, .any, .any, .any, .any, .any, .any, .any, .any, .any, .any, .any, .any, .any, .any, .any], [], 0⟩
theorem k_rSameWays (l m : List Dr) (hl : l.length ≤ 1000) : FOk P 68 [.vs (l.map eDr), .vs (m.map eDr)] (.bool (decide (l = m))) := by
  by_cases hlm : l.length = m.length
  · refine c68.fok (by simp only [subs, sub1, free_Dr]) (Cor.run (noC_good _) (noHx_good _) hm ?_)
    have h0 : ((l.length : Int) = (m.length : Int)) = True := by simp [hlm]
    simp +contextual -implicitDefEqProofs (maxSteps := 2000000) only [bg_eq, a68, List.length_map, h0, not_true_eq_false, ruB, rh_no, Int.reduceLT, Int.reduceLE, Int.reduceAdd, Int.reduceSub, Int.reduceMul, Int.reduceNeg, Int.reduceToNat, Int.reduceEq, Int.reduceNe, Int.reduceTDiv, Int.reduceTMod, implies_true, putL, appN, appX, appC, Eng.Fi, reduceCtorEq, exists_eq_left', exists_eq_left, if_true, if_false, List.replicate, Nat.reduceAdd, Nat.reduceSub, Nat.reduceMul, Nat.reduceLeDiff, Nat.reduceLT, Nat.reduceEqDiff]
    refine Cor.lp (noC_good _) (noHx_good _) hm (SS_rSameWays l m) (fun n => n ≤ l.length ∧ l.take n = m.take n) (fun n => l.length - n) (a := 0) ⟨Nat.zero_le _, by simp⟩ (Wkn.keep [0, 1, 5] rfl) ?_
    intro f n ⟨hn, hf⟩ go
    rcases Nat.lt_or_ge n l.length with h | h
    · have e1 : decide ((n : Int) < (l.length : Int)) = true := lt_t h
      have e2 : (l.map eDr)[n]? = some (eDr l[n]) := get_e eDr l h
      have e3 : IntKind.wrap .i64 ((n : Int) + 1) = ((n + 1 : Nat) : Int) := suc_w (by omega)
      have hmn : n < m.length := by omega
      have e4 : (m.map eDr)[n]? = some (eDr m[n]) := get_e eDr m hmn
      by_cases hc : l[n] = m[n]
      · rw [← hc] at e4
        simp +contextual -implicitDefEqProofs (maxSteps := 2000000) only [SS_rSameWays, e1, e2, e3, e4, List.length_map, and_self, not_true_eq_false, ruB, rh_no, Int.reduceLT, Int.reduceLE, Int.reduceAdd, Int.reduceSub, Int.reduceMul, Int.reduceNeg, Int.reduceToNat, Int.reduceEq, Int.reduceNe, Int.reduceTDiv, Int.reduceTMod, implies_true, putL, appN, appX, appC, Eng.Fi, reduceCtorEq, exists_eq_left', exists_eq_left, if_true, if_false, List.replicate, Nat.reduceAdd, Nat.reduceSub, Nat.reduceMul, Nat.reduceLeDiff, Nat.reduceLT, Nat.reduceEqDiff]
        refine go _ (n + 1) ⟨h, ?_⟩ (by omega) (Wkn.keep [0, 1, 5] rfl)
        rw [List.take_succ_eq_append_getElem h, List.take_succ_eq_append_getElem hmn, hf, hc]
      · have hne : l ≠ m := fun e => hc (by subst e; rfl)
        rw [decide_eq_false hne]
        have hq : ¬ (l[n].az = m[n].az ∧ l[n].el = m[n].el) := fun q => hc ((eDr_ext _ _).2 q)
        have hc' := eq_false hq
        generalize l[n] = x at *
        generalize m[n] = y at *
        simp +contextual -implicitDefEqProofs (maxSteps := 2000000) only [SS_rSameWays, e1, e2, e3, e4, List.length_map, hc', not_false_eq_true, ruB, rh_no, Int.reduceLT, Int.reduceLE, Int.reduceAdd, Int.reduceSub, Int.reduceMul, Int.reduceNeg, Int.reduceToNat, Int.reduceEq, Int.reduceNe, Int.reduceTDiv, Int.reduceTMod, implies_true, putL, appN, appX, appC, Eng.Fi, reduceCtorEq, exists_eq_left', exists_eq_left, if_true, if_false, List.replicate, Nat.reduceAdd, Nat.reduceSub, Nat.reduceMul, Nat.reduceLeDiff, Nat.reduceLT, Nat.reduceEqDiff]
    · have e1 : decide ((n : Int) < (l.length : Int)) = false := lt_f h
      rw [List.take_of_length_le h, List.take_of_length_le (by omega)] at hf
      rw [decide_eq_true hf]
      simp +contextual -implicitDefEqProofs (maxSteps := 2000000) only [SS_rSameWays, e1, List.length_map, ruB, rh_no, Int.reduceLT, Int.reduceLE, Int.reduceAdd, Int.reduceSub, Int.reduceMul, Int.reduceNeg, Int.reduceToNat, Int.reduceEq, Int.reduceNe, Int.reduceTDiv, Int.reduceTMod, implies_true, putL, appN, appX, appC, Eng.Fi, reduceCtorEq, exists_eq_left', exists_eq_left, if_true, if_false, List.replicate, Nat.reduceAdd, Nat.reduceSub, Nat.reduceMul, Nat.reduceLeDiff, Nat.reduceLT, Nat.reduceEqDiff]
  · have hne : l ≠ m := fun e => hlm (by rw [e])
    have h0 : ((l.length : Int) = (m.length : Int)) = False := by simp only [eq_iff_iff, iff_false]; omega
    rw [decide_eq_false hne]
    refine c68.fok (by simp only [subs, sub1, free_Dr]) (Cor.run (noC_good _) (noHx_good _) hm ?_)
    simp +contextual -implicitDefEqProofs (maxSteps := 2000000) only [bg_eq, a68, List.length_map, h0, not_false_eq_true, ruB, rh_no, Int.reduceLT, Int.reduceLE, Int.reduceAdd, Int.reduceSub, Int.reduceMul, Int.reduceNeg, Int.reduceToNat, Int.reduceEq, Int.reduceNe, Int.reduceTDiv, Int.reduceTMod, implies_true, putL, appN, appX, appC, Eng.Fi, reduceCtorEq, exists_eq_left', exists_eq_left, if_true, if_false, List.replicate, Nat.reduceAdd, Nat.reduceSub, Nat.reduceMul, Nat.reduceLeDiff, Nat.reduceLT, Nat.reduceEqDiff]
def cf_rSameWays : List AV → Option AV
  | [.vs l_v, .vs m_v] => onL dDr l_v fun l => onL dDr m_v fun m => if l.length ≤ 1000 then some (.bool (decide (l = m))) else none
  | _ => none
theorem g_rSameWays : Fn P 68 cf_rSameWays := fun args v hh => by
  unfold cf_rSameWays at hh; split at hh
  · obtain ⟨l, rfl, hh1⟩ := onL_inv dDr_inv hh
    obtain ⟨m, rfl, hh2⟩ := onL_inv dDr_inv hh1
    split at hh2
    · rename_i hc; have hk := Option.some.inj hh2; subst hk; exact k_rSameWays _ _ hc
    · cases hh2
  · cases hh
theorem x_rSameWays (l : List Dr) (m : List Dr) (hc : (l.length ≤ 1000) = True) : cf_rSameWays [.vs (l.map eDr), .vs (m.map eDr)] = some (.bool (decide (l = m))) := by
  simp only [cf_rSameWays, onL_map dDr_e]
  exact if_pos (by rw [hc]; trivial)
theorem nz0 : ((0 : Nat) : Int) = 0 := rfl
theorem k_ScanMoves (h : Hd) (a b : Dr) : FOk P 13 [eHd h, eDr a, eDr b] (.bool true) := by
  have yd := x_rDirectionErr a.az a.el
  have yd2 := x_rDirectionErr b.az b.el
  have ed : drE ⟨a.az, a.el⟩ = drE a := rfl
  have ed2 : drE ⟨b.az, b.el⟩ = drE b := rfl
  rw [ed] at yd
  rw [ed2] at yd2
  by_cases h8 : (h.res.length : Int) ≤ 8
  · have hl : h.res.length ≤ 1000 := by omega
    have hl' : h.res.length ≤ 1099511627776 := by omega
    have yc := x_CopyHead h (by simp only [hl])
    have y1 := x_WayOf a b
    have y2 := x_MoveTicks h a b (by simp only [hl'])
    have y3 := x_IsDark h a b (by simp only [hl'])
    have y4 := x_rHeadErr h (by simp only [hl])
    have hmv : mvE h a b = if hdE h = 0 then wfE a b else hdE h := by
      unfold mvE wfE
      simp only [firstE]
    by_cases c1 : wfE a b = 0
    · have c1' := c1
      unfold wfE at c1'
      have hz := firstE_zero c1'
      have za := hz (drE a) (by simp)
      have zb := hz (drE b) (by simp)
      have hda := drE_zero za
      have hdb := drE_zero zb
      have hv1 : wfV a b = .tup [.vs ((wayL a b).map eDr), I 0] := if_pos c1
      rw [hv1] at y1
      have y5 := x_rWay a b (by simp only [hda, hdb, and_self])
      have hwl := wayL_len hda hdb
      have y6 := x_rSameWays (wayL a b) (wayL a b) (by simp only [eq_iff_iff, iff_true]; omega)
      rw [decide_eq_true rfl] at y6
      generalize wayL a b = l at *
      by_cases c2 : hdE h = 0
      · rw [if_pos c2, c1] at hmv
        have hv2 : mvV h a b = .tup [I (mvT h a b), I 0] := if_pos hmv
        have hv3 : dkV h a b = .tup [B (litL h a b).isNone, I 0] := if_pos hmv
        rw [hv2] at y2
        rw [hv3] at y3
        have y7 := x_rMove h a b (by simp only [mvB_of hmv])
        have y8 := x_rIsDark h a b (by simp only [liB_of hmv])
        generalize (litL h a b).isNone = q at *
        generalize mvT h a b = t at *
        refine c13.fok (by simp only [free_Hs, free_Hd, subs, sub1, free_Se]) (Cor.run (addC_good g_rIsDark (addC_good g_rMove (addC_good g_rSameWays (addC_good g_rWay (addC_good g_rDirectionErr (addC_good g_rHeadErr (addC_good g_IsDark (addC_good g_MoveTicks (addC_good g_WayOf (addC_good g_CopyHead (addC_good g_few (addC_good g_awake (noC_good _))))))))))))) (noHx_good _) hm ?_)
        simp +contextual -implicitDefEqProofs (maxSteps := 2000000) only [bg_eq, a13, nz0, x_awake, x_few, yc, yd, yd2, y1, y2, y3, y4, y5, y6, y7, y8, h8, za, zb, c2, free_Dr, not_true_eq_false, not_false_eq_true, ne_eq, ruB, rh_no, Int.reduceLT, Int.reduceLE, Int.reduceAdd, Int.reduceSub, Int.reduceMul, Int.reduceNeg, Int.reduceToNat, Int.reduceEq, Int.reduceNe, Int.reduceTDiv, Int.reduceTMod, implies_true, putL, appN, appX, appC, Eng.Fi, reduceCtorEq, exists_eq_left', exists_eq_left, if_true, if_false, List.replicate, Nat.reduceAdd, Nat.reduceSub, Nat.reduceMul, Nat.reduceLeDiff, Nat.reduceLT, Nat.reduceEqDiff]
      · rw [if_neg c2] at hmv
        have hv2 : mvV h a b = .tup [I 0, I (hdE h)] := by rw [mvV, hmv, if_neg c2]
        have hv3 : dkV h a b = .tup [B false, I (hdE h)] := by rw [dkV, hmv, if_neg c2]
        rw [hv2] at y2
        rw [hv3] at y3
        refine c13.fok (by simp only [free_Hs, free_Hd, subs, sub1, free_Se]) (Cor.run (addC_good g_rIsDark (addC_good g_rMove (addC_good g_rSameWays (addC_good g_rWay (addC_good g_rDirectionErr (addC_good g_rHeadErr (addC_good g_IsDark (addC_good g_MoveTicks (addC_good g_WayOf (addC_good g_CopyHead (addC_good g_few (addC_good g_awake (noC_good _))))))))))))) (noHx_good _) hm ?_)
        simp +contextual -implicitDefEqProofs (maxSteps := 2000000) only [bg_eq, a13, nz0, x_awake, x_few, yc, yd, yd2, y1, y2, y3, y4, y5, y6, h8, za, zb, c2, free_Dr, not_true_eq_false, not_false_eq_true, ne_eq, ruB, rh_no, Int.reduceLT, Int.reduceLE, Int.reduceAdd, Int.reduceSub, Int.reduceMul, Int.reduceNeg, Int.reduceToNat, Int.reduceEq, Int.reduceNe, Int.reduceTDiv, Int.reduceTMod, implies_true, putL, appN, appX, appC, Eng.Fi, reduceCtorEq, exists_eq_left', exists_eq_left, if_true, if_false, List.replicate, Nat.reduceAdd, Nat.reduceSub, Nat.reduceMul, Nat.reduceLeDiff, Nat.reduceLT, Nat.reduceEqDiff]
    · have hv1 : wfV a b = .tup [.vs [], I (wfE a b)] := if_neg c1
      rw [hv1] at y1
      have hwf : wfE a b = if drE a = 0 then (if drE b = 0 then 0 else drE b) else drE a := by unfold wfE; simp only [firstE]
      by_cases c2 : hdE h = 0
      · rw [if_pos c2] at hmv
        have hv2 : mvV h a b = .tup [I 0, I (wfE a b)] := by rw [mvV, hmv, if_neg c1]
        have hv3 : dkV h a b = .tup [B false, I (wfE a b)] := by rw [dkV, hmv, if_neg c1]
        rw [hv2] at y2
        rw [hv3] at y3
        by_cases za : drE a = 0
        · have zb : ¬ drE b = 0 := fun e => c1 (by rw [hwf, if_pos za, if_pos e])
          rw [if_pos za, if_neg zb] at hwf
          rw [hwf] at y1 y2 y3
          refine c13.fok (by simp only [free_Hs, free_Hd, subs, sub1, free_Se]) (Cor.run (addC_good g_rIsDark (addC_good g_rMove (addC_good g_rSameWays (addC_good g_rWay (addC_good g_rDirectionErr (addC_good g_rHeadErr (addC_good g_IsDark (addC_good g_MoveTicks (addC_good g_WayOf (addC_good g_CopyHead (addC_good g_few (addC_good g_awake (noC_good _))))))))))))) (noHx_good _) hm ?_)
          simp +contextual -implicitDefEqProofs (maxSteps := 2000000) only [bg_eq, a13, nz0, x_awake, x_few, yc, yd, yd2, y1, y2, y3, y4, h8, za, zb, c2, not_true_eq_false, not_false_eq_true, ne_eq, ruB, rh_no, Int.reduceLT, Int.reduceLE, Int.reduceAdd, Int.reduceSub, Int.reduceMul, Int.reduceNeg, Int.reduceToNat, Int.reduceEq, Int.reduceNe, Int.reduceTDiv, Int.reduceTMod, implies_true, putL, appN, appX, appC, Eng.Fi, reduceCtorEq, exists_eq_left', exists_eq_left, if_true, if_false, List.replicate, Nat.reduceAdd, Nat.reduceSub, Nat.reduceMul, Nat.reduceLeDiff, Nat.reduceLT, Nat.reduceEqDiff]
        · rw [if_neg za] at hwf
          rw [hwf] at y1 y2 y3
          refine c13.fok (by simp only [free_Hs, free_Hd, subs, sub1, free_Se]) (Cor.run (addC_good g_rIsDark (addC_good g_rMove (addC_good g_rSameWays (addC_good g_rWay (addC_good g_rDirectionErr (addC_good g_rHeadErr (addC_good g_IsDark (addC_good g_MoveTicks (addC_good g_WayOf (addC_good g_CopyHead (addC_good g_few (addC_good g_awake (noC_good _))))))))))))) (noHx_good _) hm ?_)
          simp +contextual -implicitDefEqProofs (maxSteps := 2000000) only [bg_eq, a13, nz0, x_awake, x_few, yc, yd, yd2, y1, y2, y3, y4, h8, za, c2, not_true_eq_false, not_false_eq_true, ne_eq, ruB, rh_no, Int.reduceLT, Int.reduceLE, Int.reduceAdd, Int.reduceSub, Int.reduceMul, Int.reduceNeg, Int.reduceToNat, Int.reduceEq, Int.reduceNe, Int.reduceTDiv, Int.reduceTMod, implies_true, putL, appN, appX, appC, Eng.Fi, reduceCtorEq, exists_eq_left', exists_eq_left, if_true, if_false, List.replicate, Nat.reduceAdd, Nat.reduceSub, Nat.reduceMul, Nat.reduceLeDiff, Nat.reduceLT, Nat.reduceEqDiff]
      · rw [if_neg c2] at hmv
        have hv2 : mvV h a b = .tup [I 0, I (hdE h)] := by rw [mvV, hmv, if_neg c2]
        have hv3 : dkV h a b = .tup [B false, I (hdE h)] := by rw [dkV, hmv, if_neg c2]
        rw [hv2] at y2
        rw [hv3] at y3
        by_cases za : drE a = 0
        · have zb : ¬ drE b = 0 := fun e => c1 (by rw [hwf, if_pos za, if_pos e])
          rw [if_pos za, if_neg zb] at hwf
          rw [hwf] at y1
          refine c13.fok (by simp only [free_Hs, free_Hd, subs, sub1, free_Se]) (Cor.run (addC_good g_rIsDark (addC_good g_rMove (addC_good g_rSameWays (addC_good g_rWay (addC_good g_rDirectionErr (addC_good g_rHeadErr (addC_good g_IsDark (addC_good g_MoveTicks (addC_good g_WayOf (addC_good g_CopyHead (addC_good g_few (addC_good g_awake (noC_good _))))))))))))) (noHx_good _) hm ?_)
          simp +contextual -implicitDefEqProofs (maxSteps := 2000000) only [bg_eq, a13, nz0, x_awake, x_few, yc, yd, yd2, y1, y2, y3, y4, h8, za, zb, c2, not_true_eq_false, not_false_eq_true, ne_eq, ruB, rh_no, Int.reduceLT, Int.reduceLE, Int.reduceAdd, Int.reduceSub, Int.reduceMul, Int.reduceNeg, Int.reduceToNat, Int.reduceEq, Int.reduceNe, Int.reduceTDiv, Int.reduceTMod, implies_true, putL, appN, appX, appC, Eng.Fi, reduceCtorEq, exists_eq_left', exists_eq_left, if_true, if_false, List.replicate, Nat.reduceAdd, Nat.reduceSub, Nat.reduceMul, Nat.reduceLeDiff, Nat.reduceLT, Nat.reduceEqDiff]
        · rw [if_neg za] at hwf
          rw [hwf] at y1
          refine c13.fok (by simp only [free_Hs, free_Hd, subs, sub1, free_Se]) (Cor.run (addC_good g_rIsDark (addC_good g_rMove (addC_good g_rSameWays (addC_good g_rWay (addC_good g_rDirectionErr (addC_good g_rHeadErr (addC_good g_IsDark (addC_good g_MoveTicks (addC_good g_WayOf (addC_good g_CopyHead (addC_good g_few (addC_good g_awake (noC_good _))))))))))))) (noHx_good _) hm ?_)
          simp +contextual -implicitDefEqProofs (maxSteps := 2000000) only [bg_eq, a13, nz0, x_awake, x_few, yc, yd, yd2, y1, y2, y3, y4, h8, za, c2, not_true_eq_false, not_false_eq_true, ne_eq, ruB, rh_no, Int.reduceLT, Int.reduceLE, Int.reduceAdd, Int.reduceSub, Int.reduceMul, Int.reduceNeg, Int.reduceToNat, Int.reduceEq, Int.reduceNe, Int.reduceTDiv, Int.reduceTMod, implies_true, putL, appN, appX, appC, Eng.Fi, reduceCtorEq, exists_eq_left', exists_eq_left, if_true, if_false, List.replicate, Nat.reduceAdd, Nat.reduceSub, Nat.reduceMul, Nat.reduceLeDiff, Nat.reduceLT, Nat.reduceEqDiff]
  · refine c13.fok (by simp only [free_Hs, free_Hd, subs, sub1, free_Se]) (Cor.run (addC_good g_rIsDark (addC_good g_rMove (addC_good g_rSameWays (addC_good g_rWay (addC_good g_rDirectionErr (addC_good g_rHeadErr (addC_good g_IsDark (addC_good g_MoveTicks (addC_good g_WayOf (addC_good g_CopyHead (addC_good g_few (addC_good g_awake (noC_good _))))))))))))) (noHx_good _) hm ?_)
    simp +contextual -implicitDefEqProofs (maxSteps := 2000000) only [bg_eq, a13, nz0, x_awake, x_few, h8, not_true_eq_false, not_false_eq_true, ne_eq, ruB, rh_no, Int.reduceLT, Int.reduceLE, Int.reduceAdd, Int.reduceSub, Int.reduceMul, Int.reduceNeg, Int.reduceToNat, Int.reduceEq, Int.reduceNe, Int.reduceTDiv, Int.reduceTMod, implies_true, putL, appN, appX, appC, Eng.Fi, reduceCtorEq, exists_eq_left', exists_eq_left, if_true, if_false, List.replicate, Nat.reduceAdd, Nat.reduceSub, Nat.reduceMul, Nat.reduceLeDiff, Nat.reduceLT, Nat.reduceEqDiff]
theorem law13 (n0 : Nat) (u0 : AV) (a0 : ArG P n0 42 u0) (n1 : Nat) (u1 : AV) (a1 : ArG P n1 37 u1) (n2 : Nat) (u2 : AV) (a2 : ArG P n2 37 u2) : FOk P 13 [u0, u1, u2] (.bool true) := by
  obtain ⟨h, rfl, _⟩ := arHead a0
  obtain ⟨a, rfl⟩ := arDir a1
  obtain ⟨b, rfl⟩ := arDir a2
  exact k_ScanMoves h a b
end Sc
