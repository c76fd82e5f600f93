import Derived.Test.YtabkbhpeeefmgaaEngS9
import Derived.Test.YtabkbhpeeefmgaaW917
import Derived.Test.YtabkbhpeeefmgaaEngSH
import Derived.Test.YtabkbhpeeefmgaaW912
open Go Go.Proofs Eng
set_option maxRecDepth 100000
set_option linter.unusedSimpArgs false
set_option linter.unusedVariables false
def a9 : AC := .seq (.ops false [] [⟨some 2, .box 102 10 1 true, [.t 0], none⟩, ⟨some 4, .p (.mov), [.c (.bool false)], none⟩]) (.seq (.seq (.ops false [] [⟨some 26, .call 13, [], none⟩, ⟨some 27, .p (.notB), [.t 26], none⟩]) (.cond (.t 27) (.seq (.ops false [] [⟨some 4, .p (.mov), [.c (.bool false)], none⟩]) (.ret)) (.skip))) (.seq (.seq (.ops false [] [⟨some 28, .load 10 true, [.t 2], none⟩, ⟨some 29, .call 51, [.t 28], none⟩, ⟨some 30, .p (.notB), [.t 29], none⟩, ⟨some 31, .p (.mov), [.t 30], none⟩, ⟨some 32, .load 10 true, [.t 2], some (31, false)⟩, ⟨some 33, .call 52, [.t 32], some (31, false)⟩, ⟨some 34, .p (.binI .neq), [.t 33, .c (.int .i64 0)], some (31, false)⟩, ⟨some 35, .p (.pick), [.t 31, .c (.bool true), .t 34], none⟩]) (.cond (.t 35) (.seq (.ops false [] [⟨some 4, .p (.mov), [.c (.bool true)], none⟩]) (.ret)) (.skip))) (.seq (.ops false [] [⟨some 36, .load 10 true, [.t 2], none⟩, ⟨some 37, .call 53, [.t 36], none⟩, ⟨some 5, .p (.mov), [.t 37], none⟩]) (.seq (.ops false [] [⟨some 38, .p (.mov), [.t 5], none⟩, ⟨some 39, .p (.mov), [.t 1], none⟩, ⟨some 40, .p (.mov), [.t 5], none⟩, ⟨some 41, .p (.lenS), [.t 40], none⟩, ⟨some 42, .call 54, [.t 39, .t 41], none⟩, ⟨some 43, .p (.iaddrS 4), [.t 38, .t 42], none⟩, ⟨some 44, .load 4 true, [.t 43], none⟩, ⟨some 6, .alloc 108 4 [.agg [.int .i64 0, .int .i64 0, .int .i64 0, .int .i64 0]], [], none⟩, ⟨none, .store 4 true, [.t 6, .t 44], none⟩]) (.seq (.ops false [] [⟨some 46, .load 10 true, [.t 2], none⟩, ⟨some 47, .call 56, [.t 46], none⟩, ⟨some 48, .call 55, [.t 47], none⟩, ⟨some 45, .p (.mov), [.t 48], none⟩, ⟨some 49, .p (.ext 0), [.t 45], none⟩, ⟨some 50, .p (.ext 1), [.t 45], none⟩, ⟨some 51, .p (.ext 2), [.t 45], none⟩, ⟨some 7, .alloc 108 4 [.agg [.int .i64 0, .int .i64 0, .int .i64 0, .int .i64 0]], [], none⟩, ⟨none, .store 4 true, [.t 7, .t 49], none⟩, ⟨some 8, .p (.mov), [.t 50], none⟩, ⟨some 9, .p (.mov), [.t 51], none⟩]) (.seq (.ops true [] [⟨some 53, .load 4 true, [.t 7], none⟩, ⟨some 54, .p (.faddr 6), [.t 2], none⟩, ⟨some 55, .load 3 true, [.t 54], none⟩, ⟨some 56, .p (.faddr 9), [.t 2], none⟩, ⟨some 57, .load 1 false, [.t 56], none⟩, ⟨some 58, .call 58, [.t 57], none⟩, ⟨some 59, .call 57, [.t 53, .t 55, .t 58], none⟩, ⟨some 52, .p (.mov), [.t 59], none⟩, ⟨some 60, .p (.ext 0), [.t 52], none⟩, ⟨some 61, .p (.ext 1), [.t 52], none⟩, ⟨some 10, .p (.mov), [.t 60], none⟩, ⟨some 11, .p (.mov), [.t 61], none⟩]) (.seq (.ops true [] [⟨some 63, .load 4 true, [.t 6], none⟩, ⟨some 64, .p (.faddr 6), [.t 2], none⟩, ⟨some 65, .load 3 true, [.t 64], none⟩, ⟨some 66, .p (.faddr 9), [.t 2], none⟩, ⟨some 67, .load 1 false, [.t 66], none⟩, ⟨some 68, .call 58, [.t 67], none⟩, ⟨some 69, .call 57, [.t 63, .t 65, .t 68], none⟩, ⟨some 62, .p (.mov), [.t 69], none⟩, ⟨some 70, .p (.ext 0), [.t 62], none⟩, ⟨some 71, .p (.ext 1), [.t 62], none⟩, ⟨some 12, .p (.mov), [.t 70], none⟩, ⟨some 13, .p (.mov), [.t 71], none⟩]) (.seq (.seq (.ops false [] [⟨some 72, .p (.mov), [.t 9], none⟩, ⟨some 73, .p (.binI .neq), [.t 72, .c (.int .i64 0)], none⟩, ⟨some 74, .p (.mov), [.t 73], none⟩, ⟨some 75, .p (.mov), [.t 11], some (74, false)⟩, ⟨some 76, .p (.binI .neq), [.t 75, .c (.int .i64 0)], some (74, false)⟩, ⟨some 77, .p (.pick), [.t 74, .c (.bool true), .t 76], none⟩, ⟨some 78, .p (.mov), [.t 77], none⟩, ⟨some 79, .p (.mov), [.t 13], some (78, false)⟩, ⟨some 80, .p (.binI .neq), [.t 79, .c (.int .i64 0)], some (78, false)⟩, ⟨some 81, .p (.pick), [.t 78, .c (.bool true), .t 80], none⟩, ⟨some 82, .p (.mov), [.t 81], none⟩, ⟨some 83, .p (.mov), [.t 10], some (82, false)⟩, ⟨some 84, .p (.mov), [.t 8], some (82, false)⟩, ⟨some 85, .p (.binI .neq), [.t 83, .t 84], some (82, false)⟩, ⟨some 86, .p (.pick), [.t 82, .c (.bool true), .t 85], none⟩, ⟨some 87, .p (.mov), [.t 86], none⟩, ⟨some 88, .p (.mov), [.t 12], some (87, false)⟩, ⟨some 89, .p (.mov), [.t 8], some (87, false)⟩, ⟨some 90, .p (.binI .lss), [.t 88, .t 89], some (87, false)⟩, ⟨some 91, .p (.pick), [.t 87, .c (.bool true), .t 90], none⟩, ⟨some 92, .p (.mov), [.t 91], none⟩, ⟨some 93, .load 4 true, [.t 7], some (92, false)⟩, ⟨some 94, .call 59, [.t 93], some (92, false)⟩, ⟨some 95, .p (.binI .neq), [.t 94, .c (.int .i64 0)], some (92, false)⟩, ⟨some 96, .p (.pick), [.t 92, .c (.bool true), .t 95], none⟩]) (.cond (.t 96) (.seq (.ops false [] [⟨some 4, .p (.mov), [.c (.bool false)], none⟩]) (.ret)) (.skip))) (.seq (.ops false [] [⟨some 97, .load 10 true, [.t 2], none⟩, ⟨some 98, .call 56, [.t 97], none⟩, ⟨some 14, .alloc 102 10 [.agg [.int .i64 0, .int .i64 0, .int .i64 0, .int .i64 0, .int .i64 0, .nilslice, .int .i64 0, .int .i64 0, .int .i64 0, .nilslice]], [], none⟩, ⟨none, .store 10 true, [.t 14, .t 98], none⟩]) (.seq (.seq (.ops false [] [⟨some 15, .p (.mov), [.c (.int .i64 0)], none⟩]) (.block 0 (.loop (.seq (.seq (.ops false [] [⟨some 99, .p (.mov), [.t 15], none⟩, ⟨some 100, .p (.faddr 9), [.t 14], none⟩, ⟨some 101, .load 1 false, [.t 100], none⟩, ⟨some 102, .p (.lenS), [.t 101], none⟩, ⟨some 103, .p (.binI .lss), [.t 99, .t 102], none⟩]) (.cond (.t 103) (.skip) (.exit 0))) (.seq (.block 1 (.seq (.ops true [] [⟨some 107, .load 4 true, [.t 6], none⟩, ⟨some 108, .p (.faddr 6), [.t 2], none⟩, ⟨some 109, .load 3 true, [.t 108], none⟩, ⟨some 110, .p (.faddr 9), [.t 2], none⟩, ⟨some 111, .load 1 false, [.t 110], none⟩, ⟨some 112, .p (.mov), [.t 15], none⟩, ⟨some 113, .p (.iaddrS 3), [.t 111, .t 112], none⟩, ⟨some 114, .p (.faddr 0), [.t 113], none⟩, ⟨some 115, .load 2 true, [.t 114], none⟩, ⟨some 116, .call 60, [.t 107, .t 109, .t 115], none⟩, ⟨some 106, .p (.mov), [.t 116], none⟩, ⟨some 117, .p (.ext 0), [.t 106], none⟩, ⟨some 118, .p (.ext 1), [.t 106], none⟩, ⟨some 16, .p (.mov), [.t 117], none⟩, ⟨some 17, .p (.mov), [.t 118], none⟩]) (.seq (.seq (.ops false [] [⟨some 119, .p (.mov), [.t 17], none⟩, ⟨some 120, .p (.binI .neq), [.t 119, .c (.int .i64 0)], none⟩, ⟨some 121, .p (.mov), [.t 120], none⟩, ⟨some 122, .p (.mov), [.t 16], some (121, false)⟩, ⟨some 123, .call 20, [.t 122, .c (.int .i64 (-1000000000)), .c (.int .i64 1000000000)], some (121, false)⟩, ⟨some 124, .p (.notB), [.t 123], some (121, false)⟩, ⟨some 125, .p (.pick), [.t 121, .c (.bool true), .t 124], none⟩]) (.cond (.t 125) (.seq (.ops false [] [⟨some 4, .p (.mov), [.c (.bool false)], none⟩]) (.ret)) (.skip))) (.ops false [] [⟨some 126, .p (.faddr 9), [.t 14], none⟩, ⟨some 127, .load 1 false, [.t 126], none⟩, ⟨some 128, .p (.mov), [.t 15], none⟩, ⟨some 129, .p (.mov), [.t 16], none⟩, ⟨some 130, .p (.iaddrS 3), [.t 127, .t 128], none⟩, ⟨some 131, .p (.faddr 2), [.t 130], none⟩, ⟨none, .store 1 false, [.t 131, .t 129], none⟩])))) (.ops false [] [⟨some 104, .p (.mov), [.t 15], none⟩, ⟨some 105, .p (.binI .add), [.t 104, .c (.int .i64 1)], none⟩, ⟨some 15, .p (.mov), [.t 105], none⟩])))))) (.seq (.ops true [] [⟨some 133, .load 4 true, [.t 6], none⟩, ⟨some 134, .p (.faddr 6), [.t 14], none⟩, ⟨some 135, .load 3 true, [.t 134], none⟩, ⟨some 136, .p (.faddr 9), [.t 14], none⟩, ⟨some 137, .load 1 false, [.t 136], none⟩, ⟨some 138, .call 58, [.t 137], none⟩, ⟨some 139, .call 57, [.t 133, .t 135, .t 138], none⟩, ⟨some 132, .p (.mov), [.t 139], none⟩, ⟨some 140, .p (.ext 0), [.t 132], none⟩, ⟨some 141, .p (.ext 1), [.t 132], none⟩, ⟨some 18, .p (.mov), [.t 140], none⟩, ⟨some 19, .p (.mov), [.t 141], none⟩]) (.seq (.ops false [] [⟨some 143, .load 10 true, [.t 14], none⟩, ⟨some 144, .call 56, [.t 143], none⟩, ⟨some 145, .call 55, [.t 144], none⟩, ⟨some 142, .p (.mov), [.t 145], none⟩, ⟨some 146, .p (.ext 0), [.t 142], none⟩, ⟨some 147, .p (.ext 1), [.t 142], none⟩, ⟨some 148, .p (.ext 2), [.t 142], none⟩, ⟨some 20, .alloc 108 4 [.agg [.int .i64 0, .int .i64 0, .int .i64 0, .int .i64 0]], [], none⟩, ⟨none, .store 4 true, [.t 20, .t 146], none⟩, ⟨some 21, .p (.mov), [.t 147], none⟩, ⟨some 22, .p (.mov), [.t 148], none⟩]) (.seq (.ops false [] [⟨some 150, .load 10 true, [.t 14], none⟩, ⟨some 151, .call 61, [.t 150, .c (.int .i64 0)], none⟩, ⟨some 149, .p (.mov), [.t 151], none⟩, ⟨some 152, .p (.ext 0), [.t 149], none⟩, ⟨some 153, .p (.ext 1), [.t 149], none⟩, ⟨some 23, .p (.mov), [.t 152], none⟩, ⟨some 24, .p (.mov), [.t 153], none⟩]) (.seq (.seq (.ops true [] [⟨some 154, .p (.mov), [.t 19], none⟩, ⟨some 155, .p (.binI .neq), [.t 154, .c (.int .i64 0)], none⟩, ⟨some 156, .p (.mov), [.t 155], none⟩, ⟨some 157, .p (.mov), [.t 18], some (156, false)⟩, ⟨some 158, .p (.binI .neq), [.t 157, .c (.int .i64 0)], some (156, false)⟩, ⟨some 159, .p (.pick), [.t 156, .c (.bool true), .t 158], none⟩, ⟨some 160, .p (.mov), [.t 159], none⟩, ⟨some 161, .p (.mov), [.t 22], some (160, false)⟩, ⟨some 162, .p (.binI .neq), [.t 161, .c (.int .i64 0)], some (160, false)⟩, ⟨some 163, .p (.pick), [.t 160, .c (.bool true), .t 162], none⟩, ⟨some 164, .p (.mov), [.t 163], none⟩, ⟨some 165, .p (.mov), [.t 21], some (164, false)⟩, ⟨some 166, .p (.binI .neq), [.t 165, .c (.int .i64 0)], some (164, false)⟩, ⟨some 167, .p (.pick), [.t 164, .c (.bool true), .t 166], none⟩, ⟨some 168, .p (.mov), [.t 167], none⟩, ⟨some 169, .p (.mov), [.t 24], some (168, false)⟩, ⟨some 170, .p (.binI .neq), [.t 169, .c (.int .i64 0)], some (168, false)⟩, ⟨some 171, .p (.pick), [.t 168, .c (.bool true), .t 170], none⟩, ⟨some 172, .p (.mov), [.t 171], none⟩, ⟨some 173, .p (.mov), [.t 23], some (172, false)⟩, ⟨some 174, .p (.lenS), [.t 173], some (172, false)⟩, ⟨some 175, .p (.binI .eql), [.t 174, .c (.int .i64 0)], some (172, false)⟩, ⟨some 176, .p (.pick), [.t 172, .c (.bool true), .t 175], none⟩, ⟨some 177, .p (.mov), [.t 176], none⟩, ⟨some 178, .p (.mov), [.t 23], some (177, false)⟩, ⟨some 179, .p (.iaddrS 4), [.t 178, .c (.int .i64 0)], some (177, false)⟩, ⟨some 180, .load 4 true, [.t 179], some (177, false)⟩, ⟨some 181, .load 4 true, [.t 20], some (177, false)⟩, ⟨some 182, .p (.eqa true [.i, .i, .i, .i]), [.t 180, .t 181], some (177, false)⟩, ⟨some 183, .p (.pick), [.t 177, .c (.bool true), .t 182], none⟩]) (.cond (.t 183) (.seq (.ops false [] [⟨some 4, .p (.mov), [.c (.bool false)], none⟩]) (.ret)) (.skip))) (.seq (.seq (.ops false [] [⟨some 25, .p (.mov), [.c (.int .i64 0)], none⟩]) (.block 2 (.loop (.seq (.seq (.ops false [] [⟨some 184, .p (.mov), [.t 25], none⟩, ⟨some 185, .p (.mov), [.t 23], none⟩, ⟨some 186, .p (.lenS), [.t 185], none⟩, ⟨some 187, .p (.binI .lss), [.t 184, .t 186], none⟩]) (.cond (.t 187) (.skip) (.exit 2))) (.seq (.block 3 (.seq (.ops true [] [⟨some 190, .p (.mov), [.t 23], none⟩, ⟨some 191, .p (.mov), [.t 25], none⟩, ⟨some 192, .p (.iaddrS 4), [.t 190, .t 191], none⟩, ⟨some 193, .load 4 true, [.t 192], none⟩, ⟨some 194, .load 4 true, [.t 6], none⟩, ⟨some 195, .p (.eqa false [.i, .i, .i, .i]), [.t 193, .t 194], none⟩]) (.cond (.t 195) (.seq (.ops false [] [⟨some 4, .p (.mov), [.c (.bool true)], none⟩]) (.ret)) (.skip)))) (.ops false [] [⟨some 188, .p (.mov), [.t 25], none⟩, ⟨some 189, .p (.binI .add), [.t 188, .c (.int .i64 1)], none⟩, ⟨some 25, .p (.mov), [.t 189], none⟩])))))) (.seq (.ops false [] [⟨some 4, .p (.mov), [.c (.bool false)], none⟩]) (.ret)))))))))))))))))
theorem c9 : FnC Try.prog 9 196 a9 [.tmp 4] := ⟨Try.call9, _, _, Try.func9, rfl, by kernel_rfl, by kernel_rfl, rfl⟩
namespace Wa
abbrev eSw (x : Sr) (t : Nat) : AV := .agg [I x.yl, I x.yh, I x.zl, I x.zh, I x.h, .vs (x.st.map eI), I x.su.y, I x.su.z, I x.su.c, .slice t 3 0 x.rd.length]
theorem suC : chkFO Try.prog 56 10 5 [[5, 6, 7, 8, 9], [6, 5, 7, 8, 9]] = true := by kernel_rfl
theorem l_CopySearch (x : Sr) (h : x.st.length ≤ 1000 ∧ x.rd.length ≤ 1000) : ∃ n', LOk P 56 [eSr x] [] 0 (eSw x 0) [⟨0, 0, .rows 118 3 (x.rd.map eRg)⟩] n' := by
  refine ⟨2, LOk.sub (hp1 := [⟨0, 0, .rows 118 3 (x.rd.map eRg)⟩, ⟨1, 1, .rows 102 10 [eSw x 0]⟩]) ?_ (by simp)⟩
  have y1 := x_CopyInts x.st (by simp only [eq_iff_iff, iff_true]; exact h.1)
  have y2 := y_cr x.rd h.2
  have hg := addH_good hn_cr (noHx_good P)
  refine c56.lokO suC (y := YH P (addH 58 h_cr noHx)) (CorO.post (CorO.seq (CorO.of (Cor.run (addC_good g_CopyInts (noC_good _)) hg hm ?_)))) (fun G => YH_add (by decide) (YH_no _ G))
  simp +contextual -implicitDefEqProofs (maxSteps := 2000000) only [bg_eq, a56, rs_nil, rs_t, rs_f, ag_nils, ag_sl, ag_vs, ag_str, ag_ptr, ag_nilp, ag_vp, ag_fun, eThen_normal, ruH, ruB, Int.reduceLT, Int.reduceLE, Int.reduceAdd, Int.reduceSub, Int.reduceMul, Int.reduceNeg, Int.reduceToNat, Int.reduceEq, Int.reduceNe, Int.reduceTDiv, Int.reduceTMod, implies_true, putL, appN, appX, appC, Eng.Fi, reduceCtorEq, exists_eq_left', exists_eq_left, if_true, if_false, List.replicate, Nat.reduceAdd, Nat.reduceSub, Nat.reduceMul, Nat.reduceLeDiff, Nat.reduceLT, Nat.reduceEqDiff]
  refine CorO.seq (CorO.opsD (addC_good g_CopyInts (noC_good _)) hg hm rfl (by decide) ?_)
  simp +contextual -implicitDefEqProofs (maxSteps := 2000000) only [List.filter_cons, List.filter_nil, y1, okN, rs_nil, rs_t, rs_f, ag_nils, ag_sl, ag_vs, ag_str, ag_ptr, ag_nilp, ag_vp, ag_fun, free_I, free_Rg, ruH, ruB, Int.reduceLT, Int.reduceLE, Int.reduceAdd, Int.reduceSub, Int.reduceMul, Int.reduceNeg, Int.reduceToNat, Int.reduceEq, Int.reduceNe, Int.reduceTDiv, Int.reduceTMod, implies_true, putL, appN, appX, appC, Eng.Fi, reduceCtorEq, exists_eq_left', exists_eq_left, if_true, if_false, List.replicate, Nat.reduceAdd, Nat.reduceSub, Nat.reduceMul, Nat.reduceLeDiff, Nat.reduceLT, Nat.reduceEqDiff]
  refine ⟨_, Wkn.rfl, ?_⟩
  rw [List.forall_mem_cons, List.forall_mem_cons]
  refine ⟨?_, ?_, by simp⟩
  all_goals
    simp +contextual -implicitDefEqProofs (maxSteps := 2000000) only [hi_cons, hi_nil, hg_n, y2, rs_nil, rs_t, rs_f, ag_nils, ag_sl, ag_vs, ag_str, ag_ptr, ag_nilp, ag_vp, ag_fun, eThen_normal, ruH, ruB, Int.reduceLT, Int.reduceLE, Int.reduceAdd, Int.reduceSub, Int.reduceMul, Int.reduceNeg, Int.reduceToNat, Int.reduceEq, Int.reduceNe, Int.reduceTDiv, Int.reduceTMod, implies_true, putL, appN, appX, appC, Eng.Fi, reduceCtorEq, exists_eq_left', exists_eq_left, if_true, if_false, List.replicate, Nat.reduceAdd, Nat.reduceSub, Nat.reduceMul, Nat.reduceLeDiff, Nat.reduceLT, Nat.reduceEqDiff]
    refine CorO.of (Cor.run (addC_good g_CopyInts (noC_good _)) hg hm ?_)
    simp +contextual -implicitDefEqProofs (maxSteps := 2000000) only [rs_nil, rs_t, rs_f, ag_nils, ag_sl, ag_vs, ag_str, ag_ptr, ag_nilp, ag_vp, ag_fun, FinL, ruH, ruB, Int.reduceLT, Int.reduceLE, Int.reduceAdd, Int.reduceSub, Int.reduceMul, Int.reduceNeg, Int.reduceToNat, Int.reduceEq, Int.reduceNe, Int.reduceTDiv, Int.reduceTMod, implies_true, putL, appN, appX, appC, Eng.Fi, reduceCtorEq, exists_eq_left', exists_eq_left, if_true, if_false, List.replicate, Nat.reduceAdd, Nat.reduceSub, Nat.reduceMul, Nat.reduceLeDiff, Nat.reduceLT, Nat.reduceEqDiff]
    exact ⟨⟨[.any, .any, .ptr 1 10 0 0, .any, .any, .any, .any, .any, .any, .any, .any, .any], [⟨0, 0, .rows 118 3 (x.rd.map eRg)⟩, ⟨1, 1, .rows 102 10 [eSw x 0]⟩], 2⟩, Wkn.to ⟨0, [(1, 1), (2, 0)], [], 2, [2]⟩ rfl rfl (by simp [Wk.st, keepT, memN, Wk.fate, Wk.fate0, assoc, getE, Wk.hp, ABlk.sub, sub1, subs, free_Rg, free_I]), _, rfl, rfl, by simp, rfl⟩
def h_cs : List AV → List HEnt → Nat → Option (AV × List HEnt × Nat)
  | [.agg [.int .i64 a, .int .i64 b, .int .i64 c, .int .i64 d, .int .i64 e, .vs us, .int .i64 f, .int .i64 i, .int .i64 j, .vs vs]], H, nx => match decL decI us, decL dRg vs with
    | some l, some m => if l.length ≤ 1000 ∧ m.length ≤ 1000 then some (eSw ⟨a, b, c, d, e, l, ⟨f, i, j⟩, m⟩ nx, ⟨nx, nx, .rows 118 3 (m.map eRg)⟩ :: H, nx + 1) else none
    | _, _ => none
  | _, _, _ => none
theorem hn_cs : Hn P 56 h_cs := fun args H nx v hp' nx' hh => by
  unfold h_cs at hh
  split at hh
  · split at hh
    · rename_i l m hl hm2
      split at hh
      · rename_i hc
        have hh := Option.some.inj hh
        simp only [Prod.mk.injEq] at hh
        obtain ⟨rfl, rfl, rfl⟩ := hh
        rw [decL_inv decI eI (fun v x => decI_inv) hl, decL_inv dRg eRg dRg_inv hm2]
        obtain ⟨n', hk⟩ := l_CopySearch ⟨_, _, _, _, _, l, ⟨_, _, _⟩, m⟩ hc
        exact LOk.lay1 hk (by simp only [subs, sub1, free_I, free_Rg]) (free_Rg _ _) (by simp only [sub1, subs, free_I, one1, if_true])
      · cases hh
    · cases hh
  · cases hh
theorem y_cs (x : Sr) (h : x.st.length ≤ 1000 ∧ x.rd.length ≤ 1000) (H : List HEnt) (nx : Nat) : h_cs [eSr x] H nx = some (eSw x nx, ⟨nx, nx, .rows 118 3 (x.rd.map eRg)⟩ :: H, nx + 1) := by
  simp only [h_cs, decL_map decI eI decI_I, decL_map dRg eRg dRg_e]
  rw [if_pos h]
def exR (p : Pa) (s : Su) (r : Rg) : Rg := ⟨r.y, r.z, prV p s ⟨r.y, r.z⟩⟩
def exS (p : Pa) (x : Sr) : Sr := { x with rd := x.rd.map (exR p x.su) }
theorem mfS_ex (p : Pa) (s : Su) : ∀ (l : List Rg) (a : Int), mfS p s a (l.map (exR p s)) = a
  | [], a => rfl
  | r :: l, a => by
    rw [List.map_cons, mfS]
    have h : szV (prV p s ⟨(exR p s r).y, (exR p s r).z⟩ - (exR p s r).p) = 0 := by
      show szV (prV p s ⟨r.y, r.z⟩ - prV p s ⟨r.y, r.z⟩) = 0
      rw [Int.sub_self]; rfl
    rw [h, Int.add_zero]
    exact mfS_ex p s l a
theorem pZ_ex (p : Pa) (x : Sr) (y : Int) : ∀ (k : Nat) (z : Int), pZ (exS p x) y k z = pZ x y k z
  | 0, z => rfl
  | k + 1, z => by rw [pZ, pZ, pZ_ex p x y k]; rfl
theorem pY_ex (p : Pa) (x : Sr) : ∀ (k : Nat) (y : Int), pY (exS p x) k y = pY x k y
  | 0, y => rfl
  | k + 1, y => by rw [pY, pY, pY_ex p x k, pZ_ex]; rfl
theorem prL_ex (p : Pa) (x : Sr) : prL (exS p x) = prL x := by
  unfold prL; rw [pY_ex]; rfl
theorem pZ_in {x : Sr} {y : Int} {p : Pa} : ∀ {k : Nat} {z : Int}, p ∈ pZ x y k z → ∃ z' n, z ≤ z' ∧ z' < z + k ∧ n ∈ x.st ∧ p = ⟨y, z', x.h, n⟩
  | 0, z, h => by simp [pZ] at h
  | k + 1, z, h => by
    rw [pZ] at h
    rcases List.mem_append.1 h with h | h
    · obtain ⟨n, hn, rfl⟩ := List.mem_map.1 h
      exact ⟨z, n, by omega, by omega, hn, rfl⟩
    · obtain ⟨z', n, h1, h2, h3, h4⟩ := pZ_in h
      exact ⟨z', n, by omega, by omega, h3, h4⟩
theorem pY_in {x : Sr} {p : Pa} : ∀ {k : Nat} {y : Int}, p ∈ pY x k y → ∃ y' z' n, y ≤ y' ∧ y' < y + k ∧ x.zl ≤ z' ∧ z' < x.zl + (x.zh + 1 - x.zl).toNat ∧ n ∈ x.st ∧ p = ⟨y', z', x.h, n⟩
  | 0, y, h => by simp [pY] at h
  | k + 1, y, h => by
    rw [pY] at h
    rcases List.mem_append.1 h with h | h
    · obtain ⟨z', n, h1, h2, h3, h4⟩ := pZ_in h
      exact ⟨y, z', n, by omega, by omega, h1, h2, h3, h4⟩
    · obtain ⟨y', z', n, h1, h2, h3, h4, h5, h6⟩ := pY_in h
      exact ⟨y', z', n, by omega, by omega, h3, h4, h5, h6⟩
theorem pr_paE {x : Sr} {p : Pa} (hr : srR x) (h : p ∈ prL x) : paE p = 0 := by
  obtain ⟨y', z', n, h1, h2, h3, h4, h5, rfl⟩ := pY_in h
  have hn := stG_z hr.s n h5
  have hy := hr.y
  have hz := hr.z
  have hh := hr.h
  refine firstE_all fun e he => ?_
  simp only [List.mem_cons, List.not_mem_nil, or_false] at he
  rcases he with rfl | rfl
  · exact unl_t _ (by unfold ptR siR heR; simp only; omega)
  · exact unl_t _ ⟨hh, hn⟩
theorem rgG_0 : ∀ {l : List Rg}, (∀ r ∈ l, rgE r = 0) → rgG l = 0
  | [], _ => rfl
  | r :: l, h => by
    rw [rgG, if_pos (h r (by simp))]
    exact rgG_0 fun q hq => h q (by simp [hq])
theorem exS_ok {x : Sr} {p : Pa} (h : srE x = 0) (hp : p ∈ prL x) : srE (exS p x) = 0 := by
  have hr := srE_z h
  have hpa := paE_z (pr_paE hr hp)
  have h1 : s1E x = 0 := by
    unfold srE at h
    split at h
    · rename_i q; exact q
    · rename_i q; exact absurd h q
  have h1' : s1E (exS p x) = 0 := h1
  rw [srE, if_pos h1] at h
  have z := firstE_zero h
  rw [srE, if_pos h1']
  refine firstE_all fun e he => ?_
  simp only [List.mem_cons, List.not_mem_nil, or_false] at he
  rcases he with rfl | rfl | rfl
  · exact z (stG 0 x.st) (by simp)
  · exact z (suE x.su) (by simp)
  · show rsE (x.rd.map (exR p x.su)) = 0
    have hd := hr.rd
    rw [rsE, List.length_map, if_neg (by omega)]
    refine rgG_0 fun r hr2 => ?_
    obtain ⟨q, hq, rfl⟩ := List.mem_map.1 hr2
    have hq1 := (hd.2 q hq).1
    have hb := pr_le (p := p) (s := x.su) (q := ⟨q.y, q.z⟩) ⟨hpa, hr.su, hq1⟩
    refine firstE_all fun e he => ?_
    simp only [List.mem_cons, List.not_mem_nil, or_false] at he
    rcases he with rfl | rfl
    · exact unl_t _ hq1
    · exact unl_t _ (by show -1000000000 ≤ prV p x.su ⟨q.y, q.z⟩ ∧ prV p x.su ⟨q.y, q.z⟩ ≤ 1000000000; omega)
/-- what is found again -/
theorem ex_found {x : Sr} {p : Pa} (hp : p ∈ prL x) : (bsL (exS p x)).2 = 0 ∧ (maL (exS p x) 0).head? = some (bsL (exS p x)).1 ∧ p ∈ maL (exS p x) 0 := by
  have hb := bsL_ok (exS p x)
  have hne : prL (exS p x) ≠ [] := by rw [prL_ex]; exact List.ne_nil_of_mem hp
  obtain ⟨h1, h2, h3⟩ := hb.e hne
  have h0 : mfV p (exS p x).su (exS p x).rd = 0 := mfS_ex p x.su x.rd 0
  have hz : (bsL (exS p x)).2 = 0 := by
    have a := h3 p (by rw [prL_ex]; exact hp)
    rw [h0] at a
    have b := mfV_nn (bsL (exS p x)).1 (exS p x).su (exS p x).rd
    omega
  refine ⟨hz, hb.f hne hz, ?_⟩
  exact List.mem_filter.2 ⟨by rw [prL_ex]; exact hp, by simp only [decide_eq_true_eq]; omega⟩
end Wa
open Go Go.Proofs Eng
set_option maxRecDepth 100000
set_option linter.unusedSimpArgs false
set_option linter.unusedVariables false
namespace Wa
def exP (p : Pa) (x : Sr) (i : Nat) : List Rg := (x.rd.take i).map (exR p x.su) ++ x.rd.drop i
theorem exP_len (p : Pa) (x : Sr) (i : Nat) : (exP p x i).length = x.rd.length := by
  unfold exP; simp; omega
def S_wf (x : Sr) (k : Int) : AState := ⟨[.any, I k, .vp [eSr x] 0 0, .any, .any, .any, .any, .any, .any, .any, .any, .any, .any, .any, .any, .any, .any, .any, .any, .any, .any, .any, .any, .any, .any, .any, .any, .any, .any, .any, .any, .any, .any, .any, .any, .any, .any, .any, .any, .any, .any, .any, .any, .any, .any, .any, .any, .any, .any, .any, .any, .any, .any, .any, .any, .any, .any, .any, .any, .any, .any, .any, .any, .any, .any, .any, .any, .any, .any, .any, .any, .any, .any, .any, .any, .any, .any, .any, .any, .any, .any, .any, .any, .any, .any, .any, .any, .any, .any, .any, .any, .any, .any, .any, .any, .any, .any, .any, .any, .any, .any, .any, .any, .any, .any, .any, .any, .any, .any, .any, .any, .any, .any, .any, .any, .any, .any, .any, .any, .any, .any, .any, .any, .any, .any, .any, .any, .any, .any, .any, .any, .any, .any, .any, .any, .any, .any, .any, .any, .any, .any, .any, .any, .any, .any, .any, .any, .any, .any, .any, .any, .any, .any, .any, .any, .any, .any, .any, .any, .any, .any, .any, .any, .any, .any, .any, .any, .any, .any, .any, .any, .any, .any, .any, .any, .any, .any, .any, .any, .any, .any, .any, .any, .any, .any, .any, .any, .any, .any, .any, .any, .any, .any, .any, .any, .any], [], 0⟩
def S_wg (x : Sr) (p b : Pa) (m : Int) : AState := ⟨[.any, .any, .vp [eSr x] 0 0, .any, .any, .any, .vp [ePa p] 0 0, .vp [ePa b] 0 0, I m, I 0, .any, .any, .any, .any, .any, .any, .any, .any, .any, .any, .any, .any, .any, .any, .any, .any, .any, .any, .any, .any, .any, .any, .any, .any, .any, .any, .any, .any, .any, .any, .any, .any, .any, .any, .any, .any, .any, .any, .any, .any, .any, .any, .any, .any, .any, .any, .any, .any, .any, .any, .any, .any, .any, .any, .any, .any, .any, .any, .any, .any, .any, .any, .any, .any, .any, .any, .any, .any, .any, .any, .any, .any, .any, .any, .any, .any, .any, .any, .any, .any, .any, .any, .any, .any, .any, .any, .any, .any, .any, .any, .any, .any, .any, .any, .any, .any, .any, .any, .any, .any, .any, .any, .any, .any, .any, .any, .any, .any, .any, .any, .any, .any, .any, .any, .any, .any, .any, .any, .any, .any, .any, .any, .any, .any, .any, .any, .any, .any, .any, .any, .any, .any, .any, .any, .any, .any, .any, .any, .any, .any, .any, .any, .any, .any, .any, .any, .any, .any, .any, .any, .any, .any, .any, .any, .any, .any, .any, .any, .any, .any, .any, .any, .any, .any, .any, .any, .any, .any, .any, .any, .any, .any, .any, .any, .any, .any, .any, .any, .any, .any, .any, .any, .any, .any, .any, .any], [], 0⟩
def S_wh (x : Sr) (p : Pa) (i : Nat) : AState := ⟨[.any, .any, .vp [eSr x] 0 0, .any, .any, .any, .vp [ePa p] 0 0, .any, .any, .any, .any, .any, .any, .any, .ptr 1 10 0 0, I i, .any, .any, .any, .any, .any, .any, .any, .any, .any, .any, .any, .any, .any, .any, .any, .any, .any, .any, .any, .any, .any, .any, .any, .any, .any, .any, .any, .any, .any, .any, .any, .any, .any, .any, .any, .any, .any, .any, .any, .any, .any, .any, .any, .any, .any, .any, .any, .any, .any, .any, .any, .any, .any, .any, .any, .any, .any, .any, .any, .any, .any, .any, .any, .any, .any, .any, .any, .any, .any, .any, .any, .any, .any, .any, .any, .any, .any, .any, .any, .any, .any, .any, .any, .any, .any, .any, .any, .any, .any, .any, .any, .any, .any, .any, .any, .any, .any, .any, .any, .any, .any, .any, .any, .any, .any, .any, .any, .any, .any, .any, .any, .any, .any, .any, .any, .any, .any, .any, .any, .any, .any, .any, .any, .any, .any, .any, .any, .any, .any, .any, .any, .any, .any, .any, .any, .any, .any, .any, .any, .any, .any, .any, .any, .any, .any, .any, .any, .any, .any, .any, .any, .any, .any, .any, .any, .any, .any, .any, .any, .any, .any, .any, .any, .any, .any, .any, .any, .any, .any, .any, .any, .any, .any, .any, .any, .any, .any, .any, .any, .any], [⟨1, 1, .rows 102 10 [eSw x 0]⟩, ⟨0, 0, .rows 118 3 ((exP p x i).map eRg)⟩], 2⟩
def S_wi (x : Sr) (p : Pa) (i : Nat) : AState := ⟨[.any, .any, .vp [eSr x] 0 0, .any, .any, .any, .vp [ePa p] 0 0, .any, .any, .any, .any, .any, .any, .any, .ptr 1 10 0 0, I i, .any, .any, .any, .any, .any, .any, .any, .any, .any, .any, .any, .any, .any, .any, .any, .any, .any, .any, .any, .any, .any, .any, .any, .any, .any, .any, .any, .any, .any, .any, .any, .any, .any, .any, .any, .any, .any, .any, .any, .any, .any, .any, .any, .any, .any, .any, .any, .any, .any, .any, .any, .any, .any, .any, .any, .any, .any, .any, .any, .any, .any, .any, .any, .any, .any, .any, .any, .any, .any, .any, .any, .any, .any, .any, .any, .any, .any, .any, .any, .any, .any, .any, .any, .any, .any, .any, .any, .any, .any, .any, .any, .any, .any, .any, .any, .any, .any, .any, .any, .any, .any, .any, .any, .any, .any, .any, .any, .any, .any, .any, .any, .any, .any, .any, .any, .any, .any, .any, .any, .any, .any, .any, .any, .any, .any, .any, .any, .any, .any, .any, .any, .any, .any, .any, .any, .any, .any, .any, .any, .any, .any, .any, .any, .any, .any, .any, .any, .any, .any, .any, .any, .any, .any, .any, .any, .any, .any, .any, .any, .any, .any, .any, .any, .any, .any, .any, .any, .any, .any, .any, .any, .any, .any, .any, .any, .any, .any, .any, .any, .any], [⟨1, 1, .rows 102 10 [eSr (exS p x)]⟩], 2⟩
def S_wj (x : Sr) (p : Pa) (i : Nat) : AState := if i < x.rd.length then S_wh x p i else S_wi x p i
theorem exP_0 (p : Pa) (x : Sr) : exP p x 0 = x.rd := by simp [exP]
theorem exP_n (p : Pa) (x : Sr) {i : Nat} (h : x.rd.length ≤ i) : exP p x i = (exS p x).rd := by
  unfold exP
  rw [List.take_of_length_le h, List.drop_eq_nil_of_le h, List.append_nil]; rfl
theorem ePa_ext0 (x y : Pa) : x = y ↔ (x.y = y.y ∧ x.z = y.z ∧ x.h = y.h ∧ x.s = y.s) := by
  cases x; cases y; simp
def S_wk (p : Pa) (M : List Pa) (t : Nat) : AState := ⟨[.any, .any, .any, .any, .any, .any, .vp [ePa p] 0 0, .any, .any, .any, .any, .any, .any, .any, .any, .any, .any, .any, .any, .any, .any, .any, .any, .vs (M.map ePa), .any, I t, .any, .any, .any, .any, .any, .any, .any, .any, .any, .any, .any, .any, .any, .any, .any, .any, .any, .any, .any, .any, .any, .any, .any, .any, .any, .any, .any, .any, .any, .any, .any, .any, .any, .any, .any, .any, .any, .any, .any, .any, .any, .any, .any, .any, .any, .any, .any, .any, .any, .any, .any, .any, .any, .any, .any, .any, .any, .any, .any, .any, .any, .any, .any, .any, .any, .any, .any, .any, .any, .any, .any, .any, .any, .any, .any, .any, .any, .any, .any, .any, .any, .any, .any, .any, .any, .any, .any, .any, .any, .any, .any, .any, .any, .any, .any, .any, .any, .any, .any, .any, .any, .any, .any, .any, .any, .any, .any, .any, .any, .any, .any, .any, .any, .any, .any, .any, .any, .any, .any, .any, .any, .any, .any, .any, .any, .any, .any, .any, .any, .any, .any, .any, .any, .any, .any, .any, .any, .any, .any, .any, .any, .any, .any, .any, .any, .any, .any, .any, .any, .any, .any, .any, .any, .any, .any, .any, .any, .any, .any, .any, .any, .any, .any, .any, .any, .any, .any, .any, .any, .any], [], 0⟩
set_option maxHeartbeats 8000000 in
theorem k_WakeFound (x : Sr) (k : Int) (hl1 : x.st.length ≤ maxLen ∧ x.rd.length ≤ maxLen) : FOk P 9 [eSr x, I k] (.bool true) := by
  have y1 := x_few6 x
  have y2 := x_rSearchErr x
  refine c9.fok (y := YH P noHx) (by simp only [subs, sub1, free_I, free_Rg]) ?_
  rw [bg_eq]
  refine Cor.seq (Cor.run (noC_good _) (noHx_good _) hm ?_)
  simp +contextual -implicitDefEqProofs (maxSteps := 2000000) only [eThen_normal, ruB, rh_no, Int.reduceLT, Int.reduceLE, Int.reduceAdd, Int.reduceSub, Int.reduceMul, Int.reduceNeg, Int.reduceToNat, Int.reduceEq, Int.reduceNe, Int.reduceTDiv, Int.reduceTMod, implies_true, putL, appN, appX, appC, Eng.Fi, reduceCtorEq, exists_eq_left', exists_eq_left, if_true, if_false, List.replicate, Nat.reduceAdd, Nat.reduceSub, Nat.reduceMul, Nat.reduceLeDiff, Nat.reduceLT, Nat.reduceEqDiff]
  refine Cor.wk (s2 := S_wf x k) (Wkn.to ⟨0, [], [0], 0, [1, 2]⟩ rfl rfl (by simp [Wk.st, keepT, memN, Wk.fate, Wk.fate0, assoc, getE, Wk.hp, ABlk.sub, sub1, subs, S_wf, free_I, free_Rg])) ?_
  by_cases hf : fwP x ∧ srE x = 0
  · obtain ⟨hf, h0⟩ := hf
    have hf' := decide_eq_true hf
    rw [hf'] at y1
    have h0' := eq_true h0
    have hr := srE_z h0
    have hL := prL_1014 h0
    have y3 := x_rPairs x (by simp only [eq_iff_iff, iff_true]; exact ⟨h0, by omega⟩)
    have y4 := x_Mod k ((prL x).length : Int) (by simp only [eq_iff_iff, iff_true]; omega)
    have hmod : 0 ≤ k % ((prL x).length : Int) ∧ k % ((prL x).length : Int) < ((prL x).length : Int) := ⟨Int.emod_nonneg _ (by omega), Int.emod_lt_of_pos _ (by omega)⟩
    obtain ⟨j, hj⟩ : ∃ j : Nat, k % ((prL x).length : Int) = (j : Int) := ⟨(k % ((prL x).length : Int)).toNat, by omega⟩
    rw [hj] at y4 hmod
    have hjl : j < (prL x).length := by omega
    have hpin : (prL x)[j] ∈ prL x := List.getElem_mem hjl
    have g1 : ((prL x).map ePa)[j]? = some (ePa (prL x)[j]) := get_e ePa _ hjl
    obtain ⟨p, hp⟩ : ∃ p, (prL x)[j] = p := ⟨_, rfl⟩
    rw [hp] at hpin g1
    have hbs := (bsL_ok x).e (List.ne_nil_of_mem hpin)
    have y5 := x_BestIn x
    rw [biV, if_pos h0] at y5
    have yc := x_CopySearch x (by simp only [eq_iff_iff, iff_true]; have := hr.n; have := hr.rd; omega)
    obtain ⟨b1, b2, b3⟩ := hbs
    have hbp := b3 p hpin
    rw [b2] at hbp
    have hpb := pr_paE hr b1
    have hpp := pr_paE hr hpin
    have yr := x_CopyReadings x.rd (by simp only [eq_iff_iff, iff_true]; have := hr.rd; omega)
    have hsu : suE x.su = 0 := by
      have h1 : s1E x = 0 := by
        unfold srE at h0
        split at h0
        · rename_i q; exact q
        · rename_i q; exact absurd h0 q
      rw [srE, if_pos h1] at h0
      exact firstE_zero h0 _ (by simp)
    have hrs : rsE x.rd = 0 := by
      have h1 : s1E x = 0 := by
        unfold srE at h0
        split at h0
        · rename_i q; exact q
        · rename_i q; exact absurd h0 q
      rw [srE, if_pos h1] at h0
      exact firstE_zero h0 _ (by simp)
    have hmo : ∀ q, paE q = 0 → moV q x.su x.rd = .tup [I (mfV q x.su x.rd), I 0] := fun q hq => by
      rw [moV, if_pos]
      exact firstE_all fun e he => by
        simp only [List.mem_cons, List.not_mem_nil, or_false] at he
        rcases he with rfl | rfl | rfl
        · exact hq
        · exact hsu
        · exact hrs
    have y6 := x_MisfitOf (bsL x).1 x.su x.rd
    rw [hmo _ hpb, ← b2] at y6
    have y7 := x_MisfitOf p x.su x.rd
    rw [hmo _ hpp] at y7
    have y8 := x_rPairErr (bsL x).1
    rw [hpb] at y8
    rw [b2] at y5
    rw [b2] at y6
    generalize (bsL x).1 = b at *
    generalize hmb : mfV b x.su x.rd = mb at *
    refine Cor.seq (Cor.run (addC_good g_awake (noC_good _)) (noHx_good _) hm ?_)
    simp +contextual -implicitDefEqProofs (maxSteps := 2000000) only [S_wf, x_awake, eThen_normal, ruB, rh_no, Int.reduceLT, Int.reduceLE, Int.reduceAdd, Int.reduceSub, Int.reduceMul, Int.reduceNeg, Int.reduceToNat, Int.reduceEq, Int.reduceNe, Int.reduceTDiv, Int.reduceTMod, implies_true, putL, appN, appX, appC, Eng.Fi, reduceCtorEq, exists_eq_left', exists_eq_left, if_true, if_false, List.replicate, Nat.reduceAdd, Nat.reduceSub, Nat.reduceMul, Nat.reduceLeDiff, Nat.reduceLT, Nat.reduceEqDiff]
    refine Cor.seq (Cor.run (addC_good g_rSearchErr (addC_good g_few6 (noC_good _))) (noHx_good _) hm ?_)
    simp +contextual -implicitDefEqProofs (maxSteps := 2000000) only [y1, y2, h0', eThen_normal, not_true_eq_false, ruB, rh_no, Int.reduceLT, Int.reduceLE, Int.reduceAdd, Int.reduceSub, Int.reduceMul, Int.reduceNeg, Int.reduceToNat, Int.reduceEq, Int.reduceNe, Int.reduceTDiv, Int.reduceTMod, implies_true, putL, appN, appX, appC, Eng.Fi, reduceCtorEq, exists_eq_left', exists_eq_left, if_true, if_false, List.replicate, Nat.reduceAdd, Nat.reduceSub, Nat.reduceMul, Nat.reduceLeDiff, Nat.reduceLT, Nat.reduceEqDiff]
    refine Cor.seq (Cor.run (addC_good g_rPairs (noC_good _)) (noHx_good _) hm ?_)
    simp +contextual -implicitDefEqProofs (maxSteps := 2000000) only [y3, eThen_normal, ruB, rh_no, Int.reduceLT, Int.reduceLE, Int.reduceAdd, Int.reduceSub, Int.reduceMul, Int.reduceNeg, Int.reduceToNat, Int.reduceEq, Int.reduceNe, Int.reduceTDiv, Int.reduceTMod, implies_true, putL, appN, appX, appC, Eng.Fi, reduceCtorEq, exists_eq_left', exists_eq_left, if_true, if_false, List.replicate, Nat.reduceAdd, Nat.reduceSub, Nat.reduceMul, Nat.reduceLeDiff, Nat.reduceLT, Nat.reduceEqDiff]
    refine Cor.seq (Cor.run (addC_good g_Mod (noC_good _)) (noHx_good _) hm ?_)
    simp +contextual -implicitDefEqProofs (maxSteps := 2000000) only [y4, g1, List.length_map, eThen_normal, ruB, rh_no, Int.reduceLT, Int.reduceLE, Int.reduceAdd, Int.reduceSub, Int.reduceMul, Int.reduceNeg, Int.reduceToNat, Int.reduceEq, Int.reduceNe, Int.reduceTDiv, Int.reduceTMod, implies_true, putL, appN, appX, appC, Eng.Fi, reduceCtorEq, exists_eq_left', exists_eq_left, if_true, if_false, List.replicate, Nat.reduceAdd, Nat.reduceSub, Nat.reduceMul, Nat.reduceLeDiff, Nat.reduceLT, Nat.reduceEqDiff]
    refine Cor.seq (Cor.run (addC_good g_BestIn (addC_good g_CopySearch (noC_good _))) (noHx_good _) hm ?_)
    simp +contextual -implicitDefEqProofs (maxSteps := 2000000) only [yc, y5, eThen_normal, ruB, rh_no, Int.reduceLT, Int.reduceLE, Int.reduceAdd, Int.reduceSub, Int.reduceMul, Int.reduceNeg, Int.reduceToNat, Int.reduceEq, Int.reduceNe, Int.reduceTDiv, Int.reduceTMod, implies_true, putL, appN, appX, appC, Eng.Fi, reduceCtorEq, exists_eq_left', exists_eq_left, if_true, if_false, List.replicate, Nat.reduceAdd, Nat.reduceSub, Nat.reduceMul, Nat.reduceLeDiff, Nat.reduceLT, Nat.reduceEqDiff]
    refine Cor.wk (s2 := S_wg x p b mb) (Wkn.to ⟨0, [], [0, 2], 0, [2, 6, 7, 8, 9]⟩ rfl rfl (by simp [Wk.st, keepT, memN, Wk.fate, Wk.fate0, assoc, getE, Wk.hp, ABlk.sub, sub1, subs, free_I, free_Rg, S_wg])) ?_
    refine Cor.seq (Cor.run (addC_good g_MisfitOf (addC_good g_CopyReadings (noC_good _))) (noHx_good _) hm ?_)
    simp +contextual -implicitDefEqProofs (maxSteps := 2000000) only [S_wg, yr, y6, eThen_normal, ruB, rh_no, Int.reduceLT, Int.reduceLE, Int.reduceAdd, Int.reduceSub, Int.reduceMul, Int.reduceNeg, Int.reduceToNat, Int.reduceEq, Int.reduceNe, Int.reduceTDiv, Int.reduceTMod, implies_true, putL, appN, appX, appC, Eng.Fi, reduceCtorEq, exists_eq_left', exists_eq_left, if_true, if_false, List.replicate, Nat.reduceAdd, Nat.reduceSub, Nat.reduceMul, Nat.reduceLeDiff, Nat.reduceLT, Nat.reduceEqDiff]
    refine Cor.seq (Cor.run (addC_good g_MisfitOf (addC_good g_CopyReadings (noC_good _))) (noHx_good _) hm ?_)
    simp +contextual -implicitDefEqProofs (maxSteps := 2000000) only [yr, y7, eThen_normal, ruB, rh_no, Int.reduceLT, Int.reduceLE, Int.reduceAdd, Int.reduceSub, Int.reduceMul, Int.reduceNeg, Int.reduceToNat, Int.reduceEq, Int.reduceNe, Int.reduceTDiv, Int.reduceTMod, implies_true, putL, appN, appX, appC, Eng.Fi, reduceCtorEq, exists_eq_left', exists_eq_left, if_true, if_false, List.replicate, Nat.reduceAdd, Nat.reduceSub, Nat.reduceMul, Nat.reduceLeDiff, Nat.reduceLT, Nat.reduceEqDiff]
    have hlt : (mfV p x.su x.rd < mb) = False := eq_false (by omega)
    refine Cor.seq (Cor.run (addC_good g_rPairErr (noC_good _)) (noHx_good _) hm ?_)
    simp +contextual -implicitDefEqProofs (maxSteps := 2000000) only [y8, hlt, eThen_normal, not_true_eq_false, ruB, rh_no, Int.reduceLT, Int.reduceLE, Int.reduceAdd, Int.reduceSub, Int.reduceMul, Int.reduceNeg, Int.reduceToNat, Int.reduceEq, Int.reduceNe, Int.reduceTDiv, Int.reduceTMod, implies_true, putL, appN, appX, appC, Eng.Fi, reduceCtorEq, exists_eq_left', exists_eq_left, if_true, if_false, List.replicate, Nat.reduceAdd, Nat.reduceSub, Nat.reduceMul, Nat.reduceLeDiff, Nat.reduceLT, Nat.reduceEqDiff]
    have hrd := hr.rd
    have hst := hr.n
    have ys := fun H nx => y_cs x (by omega) H nx
    have hg := addH_good hn_cs (noHx_good P)
    refine Cor.yy (y' := YH P (addH 56 h_cs noHx)) (fun G => YH_add (by decide) (YH_no _ G)) ?_
    refine Cor.seq (Cor.run (addC_good g_Within (addC_good g_RadialAt (noC_good _))) hg hm ?_)
    simp +contextual -implicitDefEqProofs (maxSteps := 2000000) only [ys, rs_nil, rs_t, rs_f, ag_nils, ag_sl, ag_vs, ag_str, ag_ptr, ag_nilp, ag_vp, ag_fun, eThen_normal, ruH, ruB, Int.reduceLT, Int.reduceLE, Int.reduceAdd, Int.reduceSub, Int.reduceMul, Int.reduceNeg, Int.reduceToNat, Int.reduceEq, Int.reduceNe, Int.reduceTDiv, Int.reduceTMod, implies_true, putL, appN, appX, appC, Eng.Fi, reduceCtorEq, exists_eq_left', exists_eq_left, if_true, if_false, List.replicate, Nat.reduceAdd, Nat.reduceSub, Nat.reduceMul, Nat.reduceLeDiff, Nat.reduceLT, Nat.reduceEqDiff]
    refine Cor.seq (Cor.run (addC_good g_Within (addC_good g_RadialAt (noC_good _))) hg hm ?_)
    simp +contextual -implicitDefEqProofs (maxSteps := 2000000) only [Int.natCast_zero, ruH, ruB, Int.reduceLT, Int.reduceLE, Int.reduceAdd, Int.reduceSub, Int.reduceMul, Int.reduceNeg, Int.reduceToNat, Int.reduceEq, Int.reduceNe, Int.reduceTDiv, Int.reduceTMod, implies_true, putL, appN, appX, appC, Eng.Fi, reduceCtorEq, exists_eq_left', exists_eq_left, if_true, if_false, List.replicate, Nat.reduceAdd, Nat.reduceSub, Nat.reduceMul, Nat.reduceLeDiff, Nat.reduceLT, Nat.reduceEqDiff]
    refine Cor.lp (addC_good g_Within (addC_good g_RadialAt (noC_good _))) hg hm (S_wj x p) (fun i => i ≤ x.rd.length) (fun i => x.rd.length - i) (a := 0) (Nat.zero_le _) ?_ ?_
    · unfold S_wj
      split
      · exact Wkn.to ⟨0, [(0, 0), (1, 1)], [], 2, [2, 6, 14, 15]⟩ rfl rfl (by simp [Wk.st, keepT, memN, Wk.fate, Wk.fate0, assoc, getE, Wk.hp, ABlk.sub, sub1, subs, free_I, free_Rg, S_wh, exP_0])
      · rename_i hn0
        have hn0 : x.rd = [] := List.length_eq_zero_iff.1 (by omega)
        exact Wkn.to ⟨0, [(1, 1)], [0], 2, [2, 6, 14, 15]⟩ rfl rfl (by simp [Wk.st, keepT, memN, Wk.fate, Wk.fate0, assoc, getE, Wk.hp, ABlk.sub, sub1, subs, free_I, free_Rg, S_wi, exS, hn0])
    intro f i hi go
    rcases Nat.lt_or_ge i x.rd.length with hlt2 | hge2
    · have e1 : ((i : Int) < (x.rd.length : Int)) = True := eq_true (by omega)
      have e0 : (i < x.rd.length) = True := eq_true hlt2
      have e3 : IntKind.wrap .i64 ((i : Int) + 1) = ((i + 1 : Nat) : Int) := suc_w (by omega)
      have e2 : (x.rd.map eRg)[i]? = some (eRg x.rd[i]) := get_e eRg x.rd hlt2
      have e4 : ((exP p x i).map eRg)[i]? = some (eRg x.rd[i]) := by
        rw [List.getElem?_map]
        unfold exP
        rw [List.getElem?_append_right (by simp; omega)]
        simp only [List.length_map, List.length_take, Nat.min_eq_left (by omega : i ≤ x.rd.length), Nat.sub_self, List.getElem?_drop, Nat.add_zero]
        rw [List.getElem?_eq_getElem hlt2]; rfl
      have e5 : (exP p x i).set i (exR p x.su x.rd[i]) = exP p x (i + 1) := by
        unfold exP
        rw [List.take_succ_eq_append_getElem hlt2, List.map_append, List.set_append_right _ _ (by simp; omega)]
        simp only [List.length_map, List.length_take, Nat.min_eq_left (by omega : i ≤ x.rd.length), Nat.sub_self]
        rw [List.drop_eq_getElem_cons hlt2, List.set_cons_zero, List.append_assoc]; rfl
      have hq := hrd.2 x.rd[i] (by simp)
      have hxl := exP_len p x i
      obtain ⟨r, hre⟩ : ∃ r, x.rd[i] = r := ⟨_, rfl⟩
      rw [hre] at e2 e4 e5 hq
      have yq := x_RadialAt p x.su ⟨r.y, r.z⟩
      have hb := pr_le (p := p) (s := x.su) (q := ⟨r.y, r.z⟩) ⟨paE_z hpp, hr.su, hq.1⟩
      have hra : raE p x.su ⟨r.y, r.z⟩ = 0 := firstE_all fun e he => by
        simp only [List.mem_cons, List.not_mem_nil, or_false] at he
        rcases he with rfl | rfl | rfl
        · exact hpp
        · exact hsu
        · exact unl_t _ hq.1
      rw [raV, if_pos hra] at yq
      rw [exR] at e5
      generalize prV p x.su ⟨r.y, r.z⟩ = v at *
      have yw := x_Within v (-1000000000) 1000000000
      rw [show decide (-1000000000 ≤ v ∧ v ≤ 1000000000) = true from decide_eq_true (by omega)] at yw
      have hS : S_wj x p i = S_wh x p i := if_pos hlt2
      rw [hS]
      simp +contextual -implicitDefEqProofs (maxSteps := 2000000) only [S_wh, e0, e1, e2, e3, e4, yq, yw, s_mks1, mk_ok, s_cpy1, cp_sl, cpyE_some, cpX_some, putA_set, ap_toSet, h_mks, h_cpy, f_cpy, wA_set, e_slcW, sw_ok, rs_nil, rs_t, rs_f, ag_nils, ag_sl, ag_vs, ag_str, ag_ptr, ag_nilp, ag_vp, ag_fun, List.length_map, hxl, not_true_eq_false, ruH, ruB, Int.reduceLT, Int.reduceLE, Int.reduceAdd, Int.reduceSub, Int.reduceMul, Int.reduceNeg, Int.reduceToNat, Int.reduceEq, Int.reduceNe, Int.reduceTDiv, Int.reduceTMod, implies_true, putL, appN, appX, appC, Eng.Fi, reduceCtorEq, exists_eq_left', exists_eq_left, if_true, if_false, List.replicate, Nat.reduceAdd, Nat.reduceSub, Nat.reduceMul, Nat.reduceLeDiff, Nat.reduceLT, Nat.reduceEqDiff]
      have e6 : ((exP p x i).map eRg).set i (.agg [I r.y, I r.z, I v]) = (exP p x (i + 1)).map eRg := by rw [← e5, List.map_set]
      rw [e6]
      refine go _ (i + 1) hlt2 (by omega) ?_
      unfold S_wj
      split
      · exact Wkn.to ⟨0, [(0, 0), (1, 1)], [], 2, [2, 6, 14, 15]⟩ rfl rfl (by simp [Wk.st, keepT, memN, Wk.fate, Wk.fate0, assoc, getE, Wk.hp, ABlk.sub, sub1, subs, free_I, free_Rg, S_wh])
      · have e7 := exP_n p x (i := i + 1) (by omega)
        have e8 : (exS p x).rd.length = x.rd.length := by simp [exS]
        have e9 : eSr (exS p x) = .agg [I x.yl, I x.yh, I x.zl, I x.zh, I x.h, .vs (x.st.map eI), I x.su.y, I x.su.z, I x.su.c, .vs ((exS p x).rd.map eRg)] := rfl
        unfold S_wi
        rw [e7, e9]
        generalize (exS p x).rd = rr at *
        have e10 : (rr.map eRg).take x.rd.length = rr.map eRg := List.take_of_length_le (by simp; omega)
        have e11 : (x.rd.length ≤ rr.length) = True := eq_true (by omega)
        exact Wkn.to ⟨0, [(1, 1)], [0], 2, [2, 6, 14, 15]⟩ rfl rfl (by simp [Wk.st, keepT, memN, Wk.fate, Wk.fate0, assoc, getE, Wk.hp, ABlk.sub, sub1, subs, free_I, free_Rg, e10, e11])
    · have hS : S_wj x p i = S_wi x p i := if_neg (by omega)
      have e8 : (exS p x).rd.length = x.rd.length := by simp [exS]
      have hy0 := exS_ok h0 hpin
      have hsy : (exS p x).su = x.su := rfl
      obtain ⟨z1, z2, z3⟩ := ex_found hpin
      have hry := srE_z hy0
      have hpy : (prL (exS p x)).length ≤ 10000 := by rw [prL_ex]; omega
      have mf0 : mfV p x.su (exS p x).rd = 0 := mfS_ex p x.su x.rd 0
      rw [← hsy] at hsu
      rw [hS]
      unfold S_wi
      generalize exS p x = w at *
      have e1 : ((i : Int) < (w.rd.length : Int)) = False := eq_false (by omega)
      have v1 := x_CopyReadings w.rd (by simp only [eq_iff_iff, iff_true]; have := hry.rd; omega)
      have hrw : rsE w.rd = 0 := by
        have h1 : s1E w = 0 := by
          unfold srE at hy0
          split at hy0
          · rename_i q; exact q
          · rename_i q; exact absurd hy0 q
        rw [srE, if_pos h1] at hy0
        exact firstE_zero hy0 _ (by simp)
      have v2 := x_MisfitOf p w.su w.rd
      have hmw : moE p w.su w.rd = 0 := firstE_all fun e he => by
        simp only [List.mem_cons, List.not_mem_nil, or_false] at he
        rcases he with rfl | rfl | rfl
        · exact hpp
        · exact hsu
        · exact hrw
      rw [moV, if_pos hmw, hsy, mf0] at v2
      rw [← hsy] at v2
      have v3 := x_CopySearch w (by simp only [eq_iff_iff, iff_true]; have := hry.n; have := hry.rd; omega)
      have v4 := x_BestIn w
      rw [biV, if_pos hy0, z1] at v4
      have v5 := x_MatchesIn w 0 (by simp only [eq_iff_iff, iff_true]; exact hpy)
      have hme : meE w 0 = 0 := firstE_all fun e he => by
        simp only [List.mem_cons, List.not_mem_nil, or_false] at he
        rcases he with rfl | rfl
        · exact hy0
        · rfl
      rw [meV, if_pos hme] at v5
      have hMl : (maL w 0).length ≤ 10000 := Nat.le_trans (List.length_filter_le _ _) hpy
      generalize maL w 0 = M at *
      generalize (bsL w).1 = c at *
      have u0 : (M.map ePa)[0]? = some (ePa c) := by
        cases M with
        | nil => simp at z2
        | cons a l => simp at z2; subst z2; rfl
      have u1 : ((M.length : Int) = 0) = False := eq_false (by
        have := List.length_pos_of_mem z3
        omega)
      simp +contextual -implicitDefEqProofs (maxSteps := 2000000) only [e1, List.length_map, not_false_eq_true, eThen_normal, ruH, ruB, Int.reduceLT, Int.reduceLE, Int.reduceAdd, Int.reduceSub, Int.reduceMul, Int.reduceNeg, Int.reduceToNat, Int.reduceEq, Int.reduceNe, Int.reduceTDiv, Int.reduceTMod, implies_true, putL, appN, appX, appC, Eng.Fi, reduceCtorEq, exists_eq_left', exists_eq_left, if_true, if_false, List.replicate, Nat.reduceAdd, Nat.reduceSub, Nat.reduceMul, Nat.reduceLeDiff, Nat.reduceLT, Nat.reduceEqDiff]
      refine Cor.yy (y' := YH P noHx) (fun G => YH_no _ G) ?_
      refine Cor.seq (Cor.run (addC_good g_MisfitOf (addC_good g_CopyReadings (noC_good _))) (noHx_good _) hm ?_)
      simp +contextual -implicitDefEqProofs (maxSteps := 2000000) only [v1, v2, eThen_normal, ruB, rh_no, Int.reduceLT, Int.reduceLE, Int.reduceAdd, Int.reduceSub, Int.reduceMul, Int.reduceNeg, Int.reduceToNat, Int.reduceEq, Int.reduceNe, Int.reduceTDiv, Int.reduceTMod, implies_true, putL, appN, appX, appC, Eng.Fi, reduceCtorEq, exists_eq_left', exists_eq_left, if_true, if_false, List.replicate, Nat.reduceAdd, Nat.reduceSub, Nat.reduceMul, Nat.reduceLeDiff, Nat.reduceLT, Nat.reduceEqDiff]
      refine Cor.seq (Cor.run (addC_good g_BestIn (addC_good g_CopySearch (noC_good _))) (noHx_good _) hm ?_)
      simp +contextual -implicitDefEqProofs (maxSteps := 2000000) only [v3, v4, eThen_normal, ruB, rh_no, Int.reduceLT, Int.reduceLE, Int.reduceAdd, Int.reduceSub, Int.reduceMul, Int.reduceNeg, Int.reduceToNat, Int.reduceEq, Int.reduceNe, Int.reduceTDiv, Int.reduceTMod, implies_true, putL, appN, appX, appC, Eng.Fi, reduceCtorEq, exists_eq_left', exists_eq_left, if_true, if_false, List.replicate, Nat.reduceAdd, Nat.reduceSub, Nat.reduceMul, Nat.reduceLeDiff, Nat.reduceLT, Nat.reduceEqDiff]
      refine Cor.seq (Cor.run (addC_good g_MatchesIn (noC_good _)) (noHx_good _) hm ?_)
      simp +contextual -implicitDefEqProofs (maxSteps := 2000000) only [v5, eThen_normal, ruB, rh_no, Int.reduceLT, Int.reduceLE, Int.reduceAdd, Int.reduceSub, Int.reduceMul, Int.reduceNeg, Int.reduceToNat, Int.reduceEq, Int.reduceNe, Int.reduceTDiv, Int.reduceTMod, implies_true, putL, appN, appX, appC, Eng.Fi, reduceCtorEq, exists_eq_left', exists_eq_left, if_true, if_false, List.replicate, Nat.reduceAdd, Nat.reduceSub, Nat.reduceMul, Nat.reduceLeDiff, Nat.reduceLT, Nat.reduceEqDiff]
      refine Cor.seq (Cor.run (noC_good _) (noHx_good _) hm ?_)
      simp +contextual -implicitDefEqProofs (maxSteps := 2000000) only [u0, u1, List.length_map, Int.natCast_zero, eThen_normal, not_true_eq_false, ruB, rh_no, Int.reduceLT, Int.reduceLE, Int.reduceAdd, Int.reduceSub, Int.reduceMul, Int.reduceNeg, Int.reduceToNat, Int.reduceEq, Int.reduceNe, Int.reduceTDiv, Int.reduceTMod, implies_true, putL, appN, appX, appC, Eng.Fi, reduceCtorEq, exists_eq_left', exists_eq_left, if_true, if_false, List.replicate, Nat.reduceAdd, Nat.reduceSub, Nat.reduceMul, Nat.reduceLeDiff, Nat.reduceLT, Nat.reduceEqDiff]
      refine Cor.run (noC_good _) (noHx_good _) hm ?_
      simp +contextual -implicitDefEqProofs (maxSteps := 2000000) only [Int.natCast_zero, ruB, rh_no, Int.reduceLT, Int.reduceLE, Int.reduceAdd, Int.reduceSub, Int.reduceMul, Int.reduceNeg, Int.reduceToNat, Int.reduceEq, Int.reduceNe, Int.reduceTDiv, Int.reduceTMod, implies_true, putL, appN, appX, appC, Eng.Fi, reduceCtorEq, exists_eq_left', exists_eq_left, if_true, if_false, List.replicate, Nat.reduceAdd, Nat.reduceSub, Nat.reduceMul, Nat.reduceLeDiff, Nat.reduceLT, Nat.reduceEqDiff]
      refine Cor.lp (noC_good _) (noHx_good _) hm (S_wk p M) (fun t => t ≤ M.length ∧ ¬ p ∈ M.take t) (fun t => M.length - t) (a := 0) ⟨Nat.zero_le _, by simp⟩ (Wkn.to ⟨0, [], [], 0, [6, 23, 25]⟩ rfl rfl (by simp [Wk.st, keepT, memN, Wk.fate, Wk.fate0, assoc, getE, Wk.hp, ABlk.sub, sub1, subs, S_wk, free_Pa])) ?_
      rintro f t ⟨ht, hnt⟩ go
      rcases Nat.lt_or_ge t M.length with h | h
      · have e1 : decide ((t : Int) < (M.length : Int)) = true := lt_t h
        have e2 : (M.map ePa)[t]? = some (ePa M[t]) := get_e ePa M h
        have e3 : IntKind.wrap .i64 ((t : Int) + 1) = ((t + 1 : Nat) : Int) := suc_w (by omega)
        by_cases hc : M[t] = p
        · rw [hc] at e2
          simp +contextual -implicitDefEqProofs (maxSteps := 2000000) only [S_wk, e1, e2, e3, List.length_map, ruB, rh_no, Int.reduceLT, Int.reduceLE, Int.reduceAdd, Int.reduceSub, Int.reduceMul, Int.reduceNeg, Int.reduceToNat, Int.reduceEq, Int.reduceNe, Int.reduceTDiv, Int.reduceTMod, implies_true, putL, appN, appX, appC, Eng.Fi, reduceCtorEq, exists_eq_left', exists_eq_left, if_true, if_false, List.replicate, Nat.reduceAdd, Nat.reduceSub, Nat.reduceMul, Nat.reduceLeDiff, Nat.reduceLT, Nat.reduceEqDiff]
        · have hq : ¬ (M[t].y = p.y ∧ M[t].z = p.z ∧ M[t].h = p.h ∧ M[t].s = p.s) := fun q => hc ((ePa_ext0 _ _).2 q)
          have hq' := eq_false hq
          have htk : ¬ p ∈ M.take (t + 1) := fun q => by
            rw [List.take_succ_eq_append_getElem h] at q
            rcases List.mem_append.1 q with q | q
            · exact hnt q
            · exact hc (List.mem_singleton.1 q).symm
          generalize M[t] = mt at *
          simp +contextual -implicitDefEqProofs (maxSteps := 2000000) only [S_wk, e1, e2, e3, hq', List.length_map, and_assoc, ruB, rh_no, Int.reduceLT, Int.reduceLE, Int.reduceAdd, Int.reduceSub, Int.reduceMul, Int.reduceNeg, Int.reduceToNat, Int.reduceEq, Int.reduceNe, Int.reduceTDiv, Int.reduceTMod, implies_true, putL, appN, appX, appC, Eng.Fi, reduceCtorEq, exists_eq_left', exists_eq_left, if_true, if_false, List.replicate, Nat.reduceAdd, Nat.reduceSub, Nat.reduceMul, Nat.reduceLeDiff, Nat.reduceLT, Nat.reduceEqDiff]
          exact go _ (t + 1) ⟨h, htk⟩ (by omega) (Wkn.keep [6, 23, 25] rfl)
      · rw [List.take_of_length_le h] at hnt
        exact absurd z3 hnt
  · refine Cor.run (addC_good g_rSearchErr (addC_good g_few6 (addC_good g_awake (noC_good _)))) (noHx_good _) hm ?_
    by_cases hf1 : fwP x
    · have hf' := decide_eq_true hf1
      rw [hf'] at y1
      have h0' : (srE x = 0) = False := eq_false fun q => hf ⟨hf1, q⟩
      simp +contextual -implicitDefEqProofs (maxSteps := 2000000) only [S_wf, x_awake, y1, y2, h0', not_true_eq_false, not_false_eq_true, ruB, rh_no, Int.reduceLT, Int.reduceLE, Int.reduceAdd, Int.reduceSub, Int.reduceMul, Int.reduceNeg, Int.reduceToNat, Int.reduceEq, Int.reduceNe, Int.reduceTDiv, Int.reduceTMod, implies_true, putL, appN, appX, appC, Eng.Fi, reduceCtorEq, exists_eq_left', exists_eq_left, if_true, if_false, List.replicate, Nat.reduceAdd, Nat.reduceSub, Nat.reduceMul, Nat.reduceLeDiff, Nat.reduceLT, Nat.reduceEqDiff]
    · rw [decide_eq_false hf1] at y1
      simp +contextual -implicitDefEqProofs (maxSteps := 2000000) only [S_wf, x_awake, y1, y2, not_true_eq_false, not_false_eq_true, ruB, rh_no, Int.reduceLT, Int.reduceLE, Int.reduceAdd, Int.reduceSub, Int.reduceMul, Int.reduceNeg, Int.reduceToNat, Int.reduceEq, Int.reduceNe, Int.reduceTDiv, Int.reduceTMod, implies_true, putL, appN, appX, appC, Eng.Fi, reduceCtorEq, exists_eq_left', exists_eq_left, if_true, if_false, List.replicate, Nat.reduceAdd, Nat.reduceSub, Nat.reduceMul, Nat.reduceLeDiff, Nat.reduceLT, Nat.reduceEqDiff]
theorem arInt0 {n : Nat} {u : AV} (h : ArG P n 3 u) : ∃ m, u = I m := by
  have hh := h.one 6 (k := .i) (by kernel_rfl) (by kernel_rfl)
  simp only [ShV1] at hh
  obtain ⟨m, rfl, _⟩ := hh
  exact ⟨m, rfl⟩
theorem arSearch {n : Nat} {u : AV} (h : ArG P n 102 u) : ∃ x : Sr, u = eSr x ∧ x.st.length ≤ maxLen ∧ x.rd.length ≤ maxLen := by
  obtain ⟨us, rfl, hh⟩ := h.agg 6 (ks := [.i, .i, .i, .i, .i, .sl false [.i], .i, .i, .i, .sl true [.i, .i, .i]]) (by kernel_rfl) (by kernel_rfl)
  simp only [ShV, ShV1] at hh
  obtain ⟨_, _, rfl, ⟨a, rfl, _⟩, _, _, rfl, ⟨b, rfl, _⟩, _, _, rfl, ⟨c, rfl, _⟩, _, _, rfl, ⟨d, rfl, _⟩, _, _, rfl, ⟨e, rfl, _⟩, _, _, rfl, ⟨l, rfl, hl, hlen⟩, _, _, rfl, ⟨f, rfl, _⟩, _, _, rfl, ⟨g, rfl, _⟩, _, _, rfl, ⟨i, rfl, _⟩, _, _, rfl, ⟨m, rfl, hm2, hmlen⟩, rfl⟩ := hh
  obtain ⟨gs, e1, e2⟩ := sl_enc (α := Int) eI (ag := false) (fun p hp => by
    obtain ⟨_, _, rfl, ⟨a, rfl, _⟩, rfl⟩ := hp
    exact ⟨a, rfl⟩) hl
  obtain ⟨ms, e3, e4⟩ := sl_enc (α := Rg) eRg (ag := true) (fun p hp => by
    obtain ⟨_, _, rfl, ⟨a, rfl, _⟩, _, _, rfl, ⟨b, rfl, _⟩, _, _, rfl, ⟨c, rfl, _⟩, rfl⟩ := hp
    exact ⟨⟨a, b, c⟩, rfl⟩) hm2
  rw [e1, e3]
  exact ⟨⟨a, b, c, d, e, gs, ⟨f, g, i⟩, ms⟩, rfl, by rw [e2]; exact hlen, by rw [e4]; exact hmlen⟩
theorem law9 (n0 : Nat) (u0 : AV) (a0 : ArG P n0 102 u0) (n1 : Nat) (u1 : AV) (a1 : ArG P n1 3 u1) : FOk P 9 [u0, u1] (.bool true) := by
  obtain ⟨x, rfl, h1, h2⟩ := arSearch a0
  obtain ⟨k, rfl⟩ := arInt0 a1
  exact k_WakeFound x k ⟨h1, h2⟩
end Wa
