import Derived.Test.YtabkbhpeeefmgabEngS9
import Derived.Test.YtabkbhpeeefmgabW916
import Derived.Test.YtabkbhpeeefmgabW911
open Go Go.Proofs Eng
set_option maxRecDepth 100000
set_option linter.unusedSimpArgs false
set_option linter.unusedVariables false
def a3 : AC := .seq (.ops false [] [⟨some 3, .box 25 3 1 true, [.t 1], none⟩, ⟨some 4, .p (.mov), [.c (.bool false)], none⟩]) (.seq (.seq (.ops false [] [⟨some 9, .call 6, [], none⟩, ⟨some 10, .p (.notB), [.t 9], none⟩]) (.cond (.t 10) (.seq (.ops false [] [⟨some 4, .p (.mov), [.c (.bool false)], none⟩]) (.ret)) (.skip))) (.seq (.seq (.ops false [] [⟨some 11, .p (.mov), [.t 0], none⟩, ⟨some 12, .call 7, [.t 11], none⟩, ⟨some 13, .p (.notB), [.t 12], none⟩, ⟨some 14, .p (.mov), [.t 13], none⟩, ⟨some 15, .p (.faddr 0), [.t 3], some (14, false)⟩, ⟨some 16, .load 1 false, [.t 15], some (14, false)⟩, ⟨some 17, .p (.lenS), [.t 16], some (14, false)⟩, ⟨some 18, .p (.binI .gtr), [.t 17, .c (.int .i64 8)], some (14, false)⟩, ⟨some 19, .p (.pick), [.t 14, .c (.bool true), .t 18], none⟩, ⟨some 20, .p (.mov), [.t 19], none⟩, ⟨some 21, .p (.faddr 1), [.t 3], some (20, false)⟩, ⟨some 22, .load 1 false, [.t 21], some (20, false)⟩, ⟨some 23, .p (.lenS), [.t 22], some (20, false)⟩, ⟨some 24, .p (.binI .gtr), [.t 23, .c (.int .i64 8)], some (20, false)⟩, ⟨some 25, .p (.pick), [.t 20, .c (.bool true), .t 24], none⟩, ⟨some 26, .p (.mov), [.t 25], none⟩, ⟨some 27, .p (.faddr 2), [.t 3], some (26, false)⟩, ⟨some 28, .load 1 false, [.t 27], some (26, false)⟩, ⟨some 29, .p (.lenS), [.t 28], some (26, false)⟩, ⟨some 30, .p (.binI .gtr), [.t 29, .c (.int .i64 8)], some (26, false)⟩, ⟨some 31, .p (.pick), [.t 26, .c (.bool true), .t 30], none⟩]) (.cond (.t 31) (.seq (.ops false [] [⟨some 4, .p (.mov), [.c (.bool true)], none⟩]) (.ret)) (.skip))) (.seq (.ops true [] [⟨some 33, .p (.mov), [.t 0], none⟩, ⟨some 34, .call 9, [.t 33], none⟩, ⟨some 35, .load 3 true, [.t 3], none⟩, ⟨some 36, .call 10, [.t 35], none⟩, ⟨some 37, .call 8, [.t 34, .t 36], none⟩, ⟨some 32, .p (.mov), [.t 37], none⟩, ⟨some 38, .p (.ext 0), [.t 32], none⟩, ⟨some 39, .p (.ext 1), [.t 32], none⟩, ⟨some 5, .p (.mov), [.t 38], none⟩, ⟨some 6, .p (.mov), [.t 39], none⟩]) (.seq (.ops false [] [⟨some 41, .p (.mov), [.t 0], none⟩, ⟨some 42, .call 11, [.t 41], none⟩, ⟨some 40, .p (.mov), [.t 42], none⟩, ⟨some 43, .p (.ext 0), [.t 40], none⟩, ⟨some 44, .p (.ext 1), [.t 40], none⟩, ⟨some 7, .p (.mov), [.t 43], none⟩, ⟨some 8, .p (.mov), [.t 44], none⟩]) (.seq (.seq (.ops false [] [⟨some 45, .p (.mov), [.t 8], none⟩, ⟨some 46, .p (.binI .neq), [.t 45, .c (.int .i64 0)], none⟩]) (.cond (.t 46) (.seq (.ops false [] [⟨some 47, .p (.mov), [.t 6], none⟩, ⟨some 48, .p (.mov), [.t 8], none⟩, ⟨some 49, .p (.binI .eql), [.t 47, .t 48], none⟩, ⟨some 50, .p (.mov), [.t 49], none⟩, ⟨some 51, .p (.mov), [.t 5], some (50, true)⟩, ⟨some 52, .p (.binI .eql), [.t 51, .c (.int .i64 0)], some (50, true)⟩, ⟨some 53, .p (.pick), [.t 50, .t 52, .c (.bool false)], none⟩, ⟨some 4, .p (.mov), [.t 53], none⟩]) (.ret)) (.skip))) (.seq (.ops false [] [⟨some 55, .p (.mov), [.t 0], none⟩, ⟨some 56, .load 3 true, [.t 3], none⟩, ⟨some 57, .call 12, [.t 55, .t 56], none⟩, ⟨some 54, .p (.mov), [.t 57], none⟩, ⟨some 58, .p (.ext 0), [.t 54], none⟩, ⟨some 59, .p (.ext 1), [.t 54], none⟩, ⟨some 7, .p (.mov), [.t 58], none⟩, ⟨some 8, .p (.mov), [.t 59], none⟩]) (.seq (.ops false [] [⟨some 60, .p (.mov), [.t 6], none⟩, ⟨some 61, .p (.mov), [.t 8], none⟩, ⟨some 62, .p (.binI .eql), [.t 60, .t 61], none⟩, ⟨some 63, .p (.mov), [.t 62], none⟩, ⟨some 64, .p (.mov), [.t 5], some (63, true)⟩, ⟨some 65, .p (.mov), [.t 7], some (63, true)⟩, ⟨some 66, .p (.binI .eql), [.t 64, .t 65], some (63, true)⟩, ⟨some 67, .p (.pick), [.t 63, .t 66, .c (.bool false)], none⟩, ⟨some 4, .p (.mov), [.t 67], none⟩]) (.ret))))))))
theorem c3 : FnC Try.prog 3 68 a3 [.tmp 4] := ⟨Try.call3, _, _, Try.func3, rfl, by kernel_rfl, by kernel_rfl, rfl⟩
def a12 : AC := .seq (.ops false [] [⟨some 3, .box 25 3 1 true, [.t 1], none⟩, ⟨some 4, .p (.mov), [.c (.int .i64 0)], none⟩, ⟨some 5, .p (.mov), [.c (.int .i64 0)], none⟩]) (.seq (.seq (.ops false [] [⟨some 11, .p (.faddr 0), [.t 3], none⟩, ⟨some 12, .load 1 false, [.t 11], none⟩, ⟨some 13, .p (.lenS), [.t 12], none⟩, ⟨some 14, .p (.mov), [.t 0], none⟩, ⟨some 15, .p (.lenS), [.t 14], none⟩, ⟨some 16, .p (.binI .neq), [.t 13, .t 15], none⟩, ⟨some 17, .p (.mov), [.t 16], none⟩, ⟨some 18, .p (.faddr 1), [.t 3], some (17, false)⟩, ⟨some 19, .load 1 false, [.t 18], some (17, false)⟩, ⟨some 20, .p (.lenS), [.t 19], some (17, false)⟩, ⟨some 21, .p (.mov), [.t 0], some (17, false)⟩, ⟨some 22, .p (.lenS), [.t 21], some (17, false)⟩, ⟨some 23, .p (.binI .neq), [.t 20, .t 22], some (17, false)⟩, ⟨some 24, .p (.pick), [.t 17, .c (.bool true), .t 23], none⟩, ⟨some 25, .p (.mov), [.t 24], none⟩, ⟨some 26, .p (.faddr 2), [.t 3], some (25, false)⟩, ⟨some 27, .load 1 false, [.t 26], some (25, false)⟩, ⟨some 28, .p (.lenS), [.t 27], some (25, false)⟩, ⟨some 29, .p (.mov), [.t 0], some (25, false)⟩, ⟨some 30, .p (.lenS), [.t 29], some (25, false)⟩, ⟨some 31, .p (.binI .neq), [.t 28, .t 30], some (25, false)⟩, ⟨some 32, .p (.pick), [.t 25, .c (.bool true), .t 31], none⟩]) (.cond (.t 32) (.seq (.ops false [] [⟨some 4, .p (.mov), [.c (.int .i64 0)], none⟩, ⟨some 5, .p (.mov), [.c (.int .i64 10)], none⟩]) (.ret)) (.skip))) (.seq (.seq (.ops false [] [⟨some 6, .p (.mov), [.c (.int .i64 0)], none⟩]) (.block 0 (.loop (.seq (.seq (.ops false [] [⟨some 33, .p (.mov), [.t 6], none⟩, ⟨some 34, .p (.mov), [.t 0], none⟩, ⟨some 35, .p (.lenS), [.t 34], none⟩, ⟨some 36, .p (.binI .lss), [.t 33, .t 35], none⟩]) (.cond (.t 36) (.skip) (.exit 0))) (.seq (.block 1 (.seq (.seq (.ops false [] [⟨some 39, .p (.faddr 0), [.t 3], none⟩, ⟨some 40, .load 1 false, [.t 39], none⟩, ⟨some 41, .p (.mov), [.t 6], none⟩, ⟨some 42, .p (.iaddrS 1), [.t 40, .t 41], none⟩, ⟨some 43, .load 1 false, [.t 42], none⟩, ⟨some 44, .p (.mov), [.t 0], none⟩, ⟨some 45, .p (.lenS), [.t 44], none⟩, ⟨some 46, .p (.binI .sub), [.t 45, .c (.int .i64 1)], none⟩, ⟨some 47, .call 20, [.t 43, .c (.int .i64 0), .t 46], none⟩, ⟨some 48, .p (.notB), [.t 47], none⟩]) (.cond (.t 48) (.seq (.ops false [] [⟨some 49, .p (.mov), [.t 6], none⟩, ⟨some 4, .p (.mov), [.t 49], none⟩, ⟨some 5, .p (.mov), [.c (.int .i64 6)], none⟩]) (.ret)) (.skip))) (.seq (.ops true [] [⟨some 50, .p (.faddr 0), [.t 3], none⟩, ⟨some 51, .load 1 false, [.t 50], none⟩, ⟨some 52, .p (.mov), [.t 6], none⟩, ⟨some 53, .p (.slc 1 false true false), [.t 51, .t 52], none⟩, ⟨some 54, .p (.faddr 0), [.t 3], none⟩, ⟨some 55, .load 1 false, [.t 54], none⟩, ⟨some 56, .p (.mov), [.t 6], none⟩, ⟨some 57, .p (.iaddrS 1), [.t 55, .t 56], none⟩, ⟨some 58, .load 1 false, [.t 57], none⟩, ⟨some 59, .call 29, [.t 53, .t 58], none⟩]) (.cond (.t 59) (.seq (.ops false [] [⟨some 60, .p (.mov), [.t 6], none⟩, ⟨some 4, .p (.mov), [.t 60], none⟩, ⟨some 5, .p (.mov), [.c (.int .i64 21)], none⟩]) (.ret)) (.skip))))) (.ops false [] [⟨some 37, .p (.mov), [.t 6], none⟩, ⟨some 38, .p (.binI .add), [.t 37, .c (.int .i64 1)], none⟩, ⟨some 6, .p (.mov), [.t 38], none⟩])))))) (.seq (.seq (.ops false [] [⟨some 7, .p (.mov), [.c (.int .i64 0)], none⟩]) (.block 2 (.loop (.seq (.seq (.ops false [] [⟨some 61, .p (.mov), [.t 7], none⟩, ⟨some 62, .p (.mov), [.t 0], none⟩, ⟨some 63, .p (.lenS), [.t 62], none⟩, ⟨some 64, .p (.binI .lss), [.t 61, .t 63], none⟩]) (.cond (.t 64) (.skip) (.exit 2))) (.seq (.block 3 (.seq (.ops false [] [⟨some 67, .p (.faddr 1), [.t 3], none⟩, ⟨some 68, .load 1 false, [.t 67], none⟩, ⟨some 69, .p (.mov), [.t 7], none⟩, ⟨some 70, .p (.iaddrS 1), [.t 68, .t 69], none⟩, ⟨some 71, .load 1 false, [.t 70], none⟩, ⟨some 72, .call 20, [.t 71, .c (.int .i64 (-60000000)), .c (.int .i64 60000000)], none⟩, ⟨some 73, .p (.notB), [.t 72], none⟩, ⟨some 74, .p (.mov), [.t 73], none⟩, ⟨some 75, .p (.faddr 2), [.t 3], some (74, false)⟩, ⟨some 76, .load 1 false, [.t 75], some (74, false)⟩, ⟨some 77, .p (.mov), [.t 7], some (74, false)⟩, ⟨some 78, .p (.iaddrS 1), [.t 76, .t 77], some (74, false)⟩, ⟨some 79, .load 1 false, [.t 78], some (74, false)⟩, ⟨some 80, .call 20, [.t 79, .c (.int .i64 (-60000000)), .c (.int .i64 60000000)], some (74, false)⟩, ⟨some 81, .p (.notB), [.t 80], some (74, false)⟩, ⟨some 82, .p (.pick), [.t 74, .c (.bool true), .t 81], none⟩]) (.cond (.t 82) (.seq (.ops false [] [⟨some 83, .p (.mov), [.t 7], none⟩, ⟨some 4, .p (.mov), [.t 83], none⟩, ⟨some 5, .p (.mov), [.c (.int .i64 2)], none⟩]) (.ret)) (.skip)))) (.ops false [] [⟨some 65, .p (.mov), [.t 7], none⟩, ⟨some 66, .p (.binI .add), [.t 65, .c (.int .i64 1)], none⟩, ⟨some 7, .p (.mov), [.t 66], none⟩])))))) (.seq (.ops false [] [⟨some 8, .p (.mov), [.c (.int .i64 0)], none⟩]) (.seq (.seq (.ops false [] [⟨some 9, .p (.mov), [.c (.int .i64 0)], none⟩]) (.block 4 (.loop (.seq (.seq (.ops false [] [⟨some 84, .p (.mov), [.t 9], none⟩, ⟨some 85, .p (.mov), [.t 0], none⟩, ⟨some 86, .p (.lenS), [.t 85], none⟩, ⟨some 87, .p (.binI .lss), [.t 84, .t 86], none⟩]) (.cond (.t 87) (.skip) (.exit 4))) (.seq (.block 5 (.seq (.seq (.ops false [] [⟨some 10, .p (.mov), [.c (.int .i64 0)], none⟩]) (.block 6 (.loop (.seq (.seq (.ops false [] [⟨some 90, .p (.mov), [.t 10], none⟩, ⟨some 91, .p (.mov), [.t 0], none⟩, ⟨some 92, .p (.lenS), [.t 91], none⟩, ⟨some 93, .p (.binI .lss), [.t 90, .t 92], none⟩]) (.cond (.t 93) (.skip) (.exit 6))) (.seq (.block 7 (.seq (.ops true [] [⟨some 96, .p (.mov), [.t 0], none⟩, ⟨some 97, .p (.mov), [.t 9], none⟩, ⟨some 98, .p (.iaddrS 1), [.t 96, .t 97], none⟩, ⟨some 99, .load 1 false, [.t 98], none⟩, ⟨some 100, .p (.mov), [.t 10], none⟩, ⟨some 101, .p (.iaddrS 1), [.t 99, .t 100], none⟩, ⟨some 102, .load 1 false, [.t 101], none⟩, ⟨some 103, .p (.faddr 1), [.t 3], none⟩, ⟨some 104, .load 1 false, [.t 103], none⟩, ⟨some 105, .p (.mov), [.t 9], none⟩, ⟨some 106, .p (.iaddrS 1), [.t 104, .t 105], none⟩, ⟨some 107, .load 1 false, [.t 106], none⟩, ⟨some 108, .p (.faddr 2), [.t 3], none⟩, ⟨some 109, .load 1 false, [.t 108], none⟩, ⟨some 110, .p (.mov), [.t 10], none⟩, ⟨some 111, .p (.iaddrS 1), [.t 109, .t 110], none⟩, ⟨some 112, .load 1 false, [.t 111], none⟩, ⟨some 113, .p (.binI .add), [.t 107, .t 112], none⟩, ⟨some 114, .p (.binI .lss), [.t 102, .t 113], none⟩]) (.cond (.t 114) (.seq (.ops false [] [⟨some 115, .p (.mov), [.t 9], none⟩, ⟨some 4, .p (.mov), [.t 115], none⟩, ⟨some 5, .p (.mov), [.c (.int .i64 17)], none⟩]) (.ret)) (.skip)))) (.ops false [] [⟨some 94, .p (.mov), [.t 10], none⟩, ⟨some 95, .p (.binI .add), [.t 94, .c (.int .i64 1)], none⟩, ⟨some 10, .p (.mov), [.t 95], none⟩])))))) (.ops true [] [⟨some 116, .p (.mov), [.t 8], none⟩, ⟨some 117, .p (.faddr 1), [.t 3], none⟩, ⟨some 118, .load 1 false, [.t 117], none⟩, ⟨some 119, .p (.mov), [.t 9], none⟩, ⟨some 120, .p (.iaddrS 1), [.t 118, .t 119], none⟩, ⟨some 121, .load 1 false, [.t 120], none⟩, ⟨some 122, .p (.binI .add), [.t 116, .t 121], none⟩, ⟨some 123, .p (.faddr 2), [.t 3], none⟩, ⟨some 124, .load 1 false, [.t 123], none⟩, ⟨some 125, .p (.mov), [.t 9], none⟩, ⟨some 126, .p (.iaddrS 1), [.t 124, .t 125], none⟩, ⟨some 127, .load 1 false, [.t 126], none⟩, ⟨some 128, .p (.binI .add), [.t 122, .t 127], none⟩, ⟨some 8, .p (.mov), [.t 128], none⟩]))) (.ops false [] [⟨some 88, .p (.mov), [.t 9], none⟩, ⟨some 89, .p (.binI .add), [.t 88, .c (.int .i64 1)], none⟩, ⟨some 9, .p (.mov), [.t 89], none⟩])))))) (.seq (.seq (.ops false [] [⟨some 129, .p (.mov), [.t 8], none⟩, ⟨some 130, .p (.mov), [.t 0], none⟩, ⟨some 131, .p (.faddr 0), [.t 3], none⟩, ⟨some 132, .load 1 false, [.t 131], none⟩, ⟨some 133, .call 28, [.t 130, .t 132], none⟩, ⟨some 134, .p (.binI .neq), [.t 129, .t 133], none⟩]) (.cond (.t 134) (.seq (.ops false [] [⟨some 4, .p (.mov), [.c (.int .i64 0)], none⟩, ⟨some 5, .p (.mov), [.c (.int .i64 13)], none⟩]) (.ret)) (.skip))) (.seq (.ops false [] [⟨some 4, .p (.mov), [.c (.int .i64 0)], none⟩, ⟨some 5, .p (.mov), [.c (.int .i64 0)], none⟩]) (.ret))))))))
theorem c12 : FnC Try.prog 12 135 a12 [.tmp 4, .tmp 5] := ⟨Try.call12, _, _, Try.func12, rfl, by kernel_rfl, by kernel_rfl, rfl⟩
namespace Wa
def caS (m : List L) (p : Wp) : Int × Int := if shE m p = 0 then caR m p else (0, 10)
theorem gk_mem {k : Int} {p : L} (h : k ∈ p) : ∃ j, j < p.length ∧ gk j p = k := by
  obtain ⟨j, hj, e⟩ := List.mem_iff_getElem.1 h
  exact ⟨j, hj, by rw [gk, List.getElem?_eq_getElem hj, ← e]; rfl⟩
def S_la0 (m : List L) (p : Wp) : AState := ⟨[.vs (m.map eL), .any, .any, .vp [eWp p] 0 0, I 0, I 0, .any, .any, .any, .any, .any, .any, .any, .any, .any, .any, .any, .any, .any, .any, .any, .any, .any, .any, .any, .any, .any, .any, .any, .any, .any, .any, .any, .any, .any, .any, .any, .any, .any, .any, .any, .any, .any, .any, .any, .any, .any, .any, .any, .any, .any, .any, .any, .any, .any, .any, .any, .any, .any, .any, .any, .any, .any, .any, .any, .any, .any, .any, .any, .any, .any, .any, .any, .any, .any, .any, .any, .any, .any, .any, .any, .any, .any, .any, .any, .any, .any, .any, .any, .any, .any, .any, .any, .any, .any, .any, .any, .any, .any, .any, .any, .any, .any, .any, .any, .any, .any, .any, .any, .any, .any, .any, .any, .any, .any, .any, .any, .any, .any, .any, .any, .any, .any, .any, .any, .any, .any, .any, .any, .any, .any, .any, .any, .any, .any], [], 0⟩
def S_la1 (m : List L) (p : Wp) (i : Nat) : AState := ⟨[.vs (m.map eL), .any, .any, .vp [eWp p] 0 0, .any, .any, I i, .any, .any, .any, .any, .any, .any, .any, .any, .any, .any, .any, .any, .any, .any, .any, .any, .any, .any, .any, .any, .any, .any, .any, .any, .any, .any, .any, .any, .any, .any, .any, .any, .any, .any, .any, .any, .any, .any, .any, .any, .any, .any, .any, .any, .any, .any, .any, .any, .any, .any, .any, .any, .any, .any, .any, .any, .any, .any, .any, .any, .any, .any, .any, .any, .any, .any, .any, .any, .any, .any, .any, .any, .any, .any, .any, .any, .any, .any, .any, .any, .any, .any, .any, .any, .any, .any, .any, .any, .any, .any, .any, .any, .any, .any, .any, .any, .any, .any, .any, .any, .any, .any, .any, .any, .any, .any, .any, .any, .any, .any, .any, .any, .any, .any, .any, .any, .any, .any, .any, .any, .any, .any, .any, .any, .any, .any, .any, .any], [], 0⟩
def S_la2 (m : List L) (p : Wp) (i : Nat) : AState := ⟨[.vs (m.map eL), .any, .any, .vp [eWp p] 0 0, .any, .any, .any, I i, .any, .any, .any, .any, .any, .any, .any, .any, .any, .any, .any, .any, .any, .any, .any, .any, .any, .any, .any, .any, .any, .any, .any, .any, .any, .any, .any, .any, .any, .any, .any, .any, .any, .any, .any, .any, .any, .any, .any, .any, .any, .any, .any, .any, .any, .any, .any, .any, .any, .any, .any, .any, .any, .any, .any, .any, .any, .any, .any, .any, .any, .any, .any, .any, .any, .any, .any, .any, .any, .any, .any, .any, .any, .any, .any, .any, .any, .any, .any, .any, .any, .any, .any, .any, .any, .any, .any, .any, .any, .any, .any, .any, .any, .any, .any, .any, .any, .any, .any, .any, .any, .any, .any, .any, .any, .any, .any, .any, .any, .any, .any, .any, .any, .any, .any, .any, .any, .any, .any, .any, .any, .any, .any, .any, .any, .any, .any], [], 0⟩
def S_la3 (m : List L) (p : Wp) (q : Nat × Int) : AState := ⟨[.vs (m.map eL), .any, .any, .vp [eWp p] 0 0, .any, .any, .any, .any, I q.2, I q.1, .any, .any, .any, .any, .any, .any, .any, .any, .any, .any, .any, .any, .any, .any, .any, .any, .any, .any, .any, .any, .any, .any, .any, .any, .any, .any, .any, .any, .any, .any, .any, .any, .any, .any, .any, .any, .any, .any, .any, .any, .any, .any, .any, .any, .any, .any, .any, .any, .any, .any, .any, .any, .any, .any, .any, .any, .any, .any, .any, .any, .any, .any, .any, .any, .any, .any, .any, .any, .any, .any, .any, .any, .any, .any, .any, .any, .any, .any, .any, .any, .any, .any, .any, .any, .any, .any, .any, .any, .any, .any, .any, .any, .any, .any, .any, .any, .any, .any, .any, .any, .any, .any, .any, .any, .any, .any, .any, .any, .any, .any, .any, .any, .any, .any, .any, .any, .any, .any, .any, .any, .any, .any, .any, .any, .any], [], 0⟩
def S_la4 (m : List L) (p : Wp) (i : Nat) (s : Int) (j : Nat) : AState := ⟨[.vs (m.map eL), .any, .any, .vp [eWp p] 0 0, .any, .any, .any, .any, I s, I i, I j, .any, .any, .any, .any, .any, .any, .any, .any, .any, .any, .any, .any, .any, .any, .any, .any, .any, .any, .any, .any, .any, .any, .any, .any, .any, .any, .any, .any, .any, .any, .any, .any, .any, .any, .any, .any, .any, .any, .any, .any, .any, .any, .any, .any, .any, .any, .any, .any, .any, .any, .any, .any, .any, .any, .any, .any, .any, .any, .any, .any, .any, .any, .any, .any, .any, .any, .any, .any, .any, .any, .any, .any, .any, .any, .any, .any, .any, .any, .any, .any, .any, .any, .any, .any, .any, .any, .any, .any, .any, .any, .any, .any, .any, .any, .any, .any, .any, .any, .any, .any, .any, .any, .any, .any, .any, .any, .any, .any, .any, .any, .any, .any, .any, .any, .any, .any, .any, .any, .any, .any, .any, .any, .any, .any], [], 0⟩
set_option maxHeartbeats 8000000 in
theorem k_rCheckAssignment (m : List L) (p : Wp) (h : (cmV m).2 = 0) : FOk P 12 [.vs (m.map eL), eWp p] (.tup [I (caS m p).1, I (caS m p).2]) := by
  have hma := cmV_z h
  have hn := hma.n
  have hml : m.length ≤ 6 := hn.2
  refine c12.fok (y := YH P noHx) (by simp only [subs, sub1, free_I, free_L]) ?_
  rw [bg_eq]
  refine Cor.seq (Cor.run (noC_good _) (noHx_good _) hm ?_)
  simp +contextual -implicitDefEqProofs (maxSteps := 2000000) only [eThen_normal, ruB, rh_no, Int.reduceLT, Int.reduceLE, Int.reduceAdd, Int.reduceSub, Int.reduceMul, Int.reduceNeg, Int.reduceToNat, Int.reduceEq, Int.reduceNe, Int.reduceTDiv, Int.reduceTMod, implies_true, putL, appN, appX, appC, Eng.Fi, reduceCtorEq, exists_eq_left', exists_eq_left, if_true, if_false, List.replicate, Nat.reduceAdd, Nat.reduceSub, Nat.reduceMul, Nat.reduceLeDiff, Nat.reduceLT, Nat.reduceEqDiff]
  refine Cor.wk (s2 := S_la0 m p) (Wkn.to ⟨0, [], [0], 0, [0, 3, 4, 5]⟩ rfl rfl (by simp [Wk.st, keepT, memN, Wk.fate, Wk.fate0, assoc, getE, Wk.hp, ABlk.sub, sub1, subs, S_la0, free_I, free_L])) ?_
  by_cases h1 : (p.a.length : Int) = (m.length : Int)
  · have h1' := eq_true h1
    by_cases h2 : (p.r.length : Int) = (m.length : Int)
    · have h2' := eq_true h2
      by_cases h3 : (p.c.length : Int) = (m.length : Int)
      · have h3' := eq_true h3
        have hs0 : shE m p = 0 := unl_t _ ⟨⟨h1, h2⟩, h3⟩
        rw [caS, if_pos hs0]
        have hal : p.a.length = m.length := by omega
        have hrl : p.r.length = m.length := by omega
        have hcl : p.c.length = m.length := by omega
        refine Cor.run (addC_good g_rCost (addC_good g_Has (addC_good g_Within (noC_good _)))) (noHx_good _) hm ?_
        simp +contextual -implicitDefEqProofs (maxSteps := 2000000) only [S_la0, h1', h2', h3', List.length_map, not_true_eq_false, Int.natCast_zero, ruB, rh_no, Int.reduceLT, Int.reduceLE, Int.reduceAdd, Int.reduceSub, Int.reduceMul, Int.reduceNeg, Int.reduceToNat, Int.reduceEq, Int.reduceNe, Int.reduceTDiv, Int.reduceTMod, implies_true, putL, appN, appX, appC, Eng.Fi, reduceCtorEq, exists_eq_left', exists_eq_left, if_true, if_false, List.replicate, Nat.reduceAdd, Nat.reduceSub, Nat.reduceMul, Nat.reduceLeDiff, Nat.reduceLT, Nat.reduceEqDiff]
        refine Cor.lp (addC_good g_rCost (addC_good g_Has (addC_good g_Within (noC_good _)))) (noHx_good _) hm (S_la1 m p) (fun i => i ≤ m.length ∧ aqG m.length p.a m.length 0 = aqG m.length p.a (m.length - i) i) (fun i => m.length - i) (a := 0) ⟨Nat.zero_le _, rfl⟩ (Wkn.keep [0, 3, 6] rfl) ?_
        rintro f i ⟨hi, hf⟩ go
        rcases Nat.lt_or_ge i m.length with hlt | hge
        · have e1 : ((i : Int) < (m.length : Int)) = True := eq_true (by omega)
          have e2 : (p.a.map eI)[i]? = some (eI (gk i p.a)) := gk_get (by omega)
          have e3 : IntKind.wrap .i64 ((i : Int) + 1) = ((i + 1 : Nat) : Int) := suc_w (by omega)
          have e4 : IntKind.wrap .i64 ((m.length : Int) - 1) = (m.length : Int) - 1 := wrap64 (by omega) (by omega)
          have yc := x_Has (p.a.take i) (gk i p.a) (by simp only [eq_iff_iff, iff_true, List.length_take]; omega)
          rw [List.map_take] at yc
          have e5 : m.length - i = m.length - (i + 1) + 1 := by omega
          rw [e5, aqG] at hf
          have hin : (i ≤ p.a.length) = True := eq_true (by omega)
          by_cases c1 : 0 ≤ gk i p.a ∧ gk i p.a ≤ (m.length : Int) - 1
          · have c1' := eq_true c1
            by_cases c2 : gk i p.a ∈ p.a.take i
            · have c2' := eq_true c2
              have hq : aqE m.length p.a i = 21 := by
                unfold aqE
                rw [unl_t 6 c1, unl_f 21 (fun q => q c2)]; rfl
              rw [hq, if_neg (by decide)] at hf
              have hcaR : caR m p = ((i : Int), 21) := by
                unfold caR
                rw [hf, if_neg (by simp)]
              rw [hcaR]
              simp +contextual -implicitDefEqProofs (maxSteps := 2000000) only [S_la1, e1, e2, e3, e4, yc, hin, x_Within, c1', c2', List.length_map, not_true_eq_false, ruB, rh_no, Int.reduceLT, Int.reduceLE, Int.reduceAdd, Int.reduceSub, Int.reduceMul, Int.reduceNeg, Int.reduceToNat, Int.reduceEq, Int.reduceNe, Int.reduceTDiv, Int.reduceTMod, implies_true, putL, appN, appX, appC, Eng.Fi, reduceCtorEq, exists_eq_left', exists_eq_left, if_true, if_false, List.replicate, Nat.reduceAdd, Nat.reduceSub, Nat.reduceMul, Nat.reduceLeDiff, Nat.reduceLT, Nat.reduceEqDiff]
            · have c2' := eq_false c2
              have hq : aqE m.length p.a i = 0 := by
                unfold aqE
                rw [unl_t 6 c1, unl_t 21 c2]; rfl
              rw [hq, if_pos rfl] at hf
              simp +contextual -implicitDefEqProofs (maxSteps := 2000000) only [S_la1, e1, e2, e3, e4, yc, hin, x_Within, c1', c2', List.length_map, not_true_eq_false, ruB, rh_no, Int.reduceLT, Int.reduceLE, Int.reduceAdd, Int.reduceSub, Int.reduceMul, Int.reduceNeg, Int.reduceToNat, Int.reduceEq, Int.reduceNe, Int.reduceTDiv, Int.reduceTMod, implies_true, putL, appN, appX, appC, Eng.Fi, reduceCtorEq, exists_eq_left', exists_eq_left, if_true, if_false, List.replicate, Nat.reduceAdd, Nat.reduceSub, Nat.reduceMul, Nat.reduceLeDiff, Nat.reduceLT, Nat.reduceEqDiff]
              exact go _ (i + 1) ⟨hlt, hf⟩ (by omega) (Wkn.keep [0, 3, 6] rfl)
          · have c1' := eq_false c1
            have hq : aqE m.length p.a i = 6 := by
              unfold aqE
              rw [unl_f 6 c1]; rfl
            rw [hq, if_neg (by decide)] at hf
            have hcaR : caR m p = ((i : Int), 6) := by
              unfold caR
              rw [hf, if_neg (by simp)]
            rw [hcaR]
            simp +contextual -implicitDefEqProofs (maxSteps := 2000000) only [S_la1, e1, e2, e3, e4, yc, hin, x_Within, c1', List.length_map, not_false_eq_true, ruB, rh_no, Int.reduceLT, Int.reduceLE, Int.reduceAdd, Int.reduceSub, Int.reduceMul, Int.reduceNeg, Int.reduceToNat, Int.reduceEq, Int.reduceNe, Int.reduceTDiv, Int.reduceTMod, implies_true, putL, appN, appX, appC, Eng.Fi, reduceCtorEq, exists_eq_left', exists_eq_left, if_true, if_false, List.replicate, Nat.reduceAdd, Nat.reduceSub, Nat.reduceMul, Nat.reduceLeDiff, Nat.reduceLT, Nat.reduceEqDiff]
        · have e1 : ((i : Int) < (m.length : Int)) = False := eq_false (by omega)
          have ei : i = m.length := by omega
          subst ei
          rw [Nat.sub_self, aqG] at hf
          have hq : (aqG m.length p.a m.length 0).2 = 0 := by rw [hf]
          have haq := aqG_z hq
          have har : ∀ j, j < m.length → 0 ≤ gk j p.a ∧ gk j p.a < (m.length : Int) := fun j hj => aqE_z (haq j (Nat.zero_le _) (by omega))
          have ycost := x_rCost m p.a (by
            simp only [eq_iff_iff, iff_true]
            refine ⟨h, hal, fun k hk => ?_⟩
            obtain ⟨j, hj, rfl⟩ := gk_mem hk
            exact har j (by omega))
          rw [caR, if_pos hq]
          clear hf hq haq go
          simp +contextual -implicitDefEqProofs (maxSteps := 2000000) only [S_la1, e1, List.length_map, Int.natCast_zero, ruB, rh_no, Int.reduceLT, Int.reduceLE, Int.reduceAdd, Int.reduceSub, Int.reduceMul, Int.reduceNeg, Int.reduceToNat, Int.reduceEq, Int.reduceNe, Int.reduceTDiv, Int.reduceTMod, implies_true, putL, appN, appX, appC, Eng.Fi, reduceCtorEq, exists_eq_left', exists_eq_left, if_true, if_false, List.replicate, Nat.reduceAdd, Nat.reduceSub, Nat.reduceMul, Nat.reduceLeDiff, Nat.reduceLT, Nat.reduceEqDiff]
          refine Cor.lp (addC_good g_rCost (addC_good g_Has (addC_good g_Within (noC_good _)))) (noHx_good _) hm (S_la2 m p) (fun i => i ≤ m.length ∧ szG p m.length 0 = szG p (m.length - i) i) (fun i => m.length - i) (a := 0) ⟨Nat.zero_le _, rfl⟩ (Wkn.keep [0, 3, 7] rfl) ?_
          rintro f i ⟨hi, hf⟩ go
          rcases Nat.lt_or_ge i m.length with hlt | hge
          · have e1 : ((i : Int) < (m.length : Int)) = True := eq_true (by omega)
            have e2 : (p.r.map eI)[i]? = some (eI (gk i p.r)) := gk_get (by omega)
            have e4 : (p.c.map eI)[i]? = some (eI (gk i p.c)) := gk_get (by omega)
            have e3 : IntKind.wrap .i64 ((i : Int) + 1) = ((i + 1 : Nat) : Int) := suc_w (by omega)
            have e5 : m.length - i = m.length - (i + 1) + 1 := by omega
            rw [e5, szG] at hf
            by_cases c1 : -60000000 ≤ gk i p.r ∧ gk i p.r ≤ 60000000
            · have c1' := eq_true c1
              by_cases c2 : -60000000 ≤ gk i p.c ∧ gk i p.c ≤ 60000000
              · have c2' := eq_true c2
                rw [if_pos ⟨c1, c2⟩] at hf
                simp +contextual -implicitDefEqProofs (maxSteps := 2000000) only [S_la2, e1, e2, e3, e4, x_Within, c1', c2', List.length_map, not_true_eq_false, ruB, rh_no, Int.reduceLT, Int.reduceLE, Int.reduceAdd, Int.reduceSub, Int.reduceMul, Int.reduceNeg, Int.reduceToNat, Int.reduceEq, Int.reduceNe, Int.reduceTDiv, Int.reduceTMod, implies_true, putL, appN, appX, appC, Eng.Fi, reduceCtorEq, exists_eq_left', exists_eq_left, if_true, if_false, List.replicate, Nat.reduceAdd, Nat.reduceSub, Nat.reduceMul, Nat.reduceLeDiff, Nat.reduceLT, Nat.reduceEqDiff]
                exact go _ (i + 1) ⟨hlt, hf⟩ (by omega) (Wkn.keep [0, 3, 7] rfl)
              · have c2' := eq_false c2
                rw [if_neg (fun q => c2 q.2)] at hf
                rw [hf, if_neg (by simp)]
                simp +contextual -implicitDefEqProofs (maxSteps := 2000000) only [S_la2, e1, e2, e3, e4, x_Within, c1', c2', List.length_map, not_true_eq_false, not_false_eq_true, ruB, rh_no, Int.reduceLT, Int.reduceLE, Int.reduceAdd, Int.reduceSub, Int.reduceMul, Int.reduceNeg, Int.reduceToNat, Int.reduceEq, Int.reduceNe, Int.reduceTDiv, Int.reduceTMod, implies_true, putL, appN, appX, appC, Eng.Fi, reduceCtorEq, exists_eq_left', exists_eq_left, if_true, if_false, List.replicate, Nat.reduceAdd, Nat.reduceSub, Nat.reduceMul, Nat.reduceLeDiff, Nat.reduceLT, Nat.reduceEqDiff]
            · have c1' := eq_false c1
              rw [if_neg (fun q => c1 q.1)] at hf
              rw [hf, if_neg (by simp)]
              simp +contextual -implicitDefEqProofs (maxSteps := 2000000) only [S_la2, e1, e2, e3, e4, x_Within, c1', List.length_map, not_true_eq_false, not_false_eq_true, ruB, rh_no, Int.reduceLT, Int.reduceLE, Int.reduceAdd, Int.reduceSub, Int.reduceMul, Int.reduceNeg, Int.reduceToNat, Int.reduceEq, Int.reduceNe, Int.reduceTDiv, Int.reduceTMod, implies_true, putL, appN, appX, appC, Eng.Fi, reduceCtorEq, exists_eq_left', exists_eq_left, if_true, if_false, List.replicate, Nat.reduceAdd, Nat.reduceSub, Nat.reduceMul, Nat.reduceLeDiff, Nat.reduceLT, Nat.reduceEqDiff]
          · have e1 : ((i : Int) < (m.length : Int)) = False := eq_false (by omega)
            have ei : i = m.length := by omega
            subst ei
            rw [Nat.sub_self, szG] at hf
            have hq : (szG p m.length 0).2 = 0 := by rw [hf]
            have hsz := szG_z hq
            rw [if_pos hq]
            clear hf hq go
            simp +contextual -implicitDefEqProofs (maxSteps := 2000000) only [S_la2, e1, List.length_map, Int.natCast_zero, ruB, rh_no, Int.reduceLT, Int.reduceLE, Int.reduceAdd, Int.reduceSub, Int.reduceMul, Int.reduceNeg, Int.reduceToNat, Int.reduceEq, Int.reduceNe, Int.reduceTDiv, Int.reduceTMod, implies_true, putL, appN, appX, appC, Eng.Fi, reduceCtorEq, exists_eq_left', exists_eq_left, if_true, if_false, List.replicate, Nat.reduceAdd, Nat.reduceSub, Nat.reduceMul, Nat.reduceLeDiff, Nat.reduceLT, Nat.reduceEqDiff]
            refine Cor.lp (addC_good g_rCost (addC_good g_Has (addC_good g_Within (noC_good _)))) (noHx_good _) hm (S_la3 m p) (fun q => q.1 ≤ m.length ∧ coG m p m.length 0 0 = coG m p (m.length - q.1) q.1 (cst m (p.a.take q.1) - q.2) ∧ (-200000000 * (q.1 : Int) ≤ q.2 ∧ q.2 ≤ 200000000 * (q.1 : Int))) (fun q => m.length - q.1) (a := (0, 0)) ⟨Nat.zero_le _, rfl, by simp⟩ (Wkn.keep [0, 3, 8, 9] rfl) ?_
            rintro f ⟨i, s⟩ ⟨hi, hf, hs⟩ go
            simp only at hi hf hs
            rcases Nat.lt_or_ge i m.length with hlt | hge
            · have e1 : ((i : Int) < (m.length : Int)) = True := eq_true (by omega)
              have e3 : IntKind.wrap .i64 ((i : Int) + 1) = ((i + 1 : Nat) : Int) := suc_w (by omega)
              have e2 : (m.map eL)[i]? = some (eL m[i]) := get_e eL m hlt
              have e5 : m.length - i = m.length - (i + 1) + 1 := by omega
              rw [e5, coG] at hf
              have hri := (hma.r m[i] (by simp)).1
              have hcell : ∀ j : Nat, j < m.length → (m[i].map eI)[j]? = some (eI (cell m i (j : Int))) := fun j hj => by
                have hjr : j < m[i].length := by omega
                rw [cell_get hlt hjr]; exact get_e eI _ hjr
              obtain ⟨row, hrow⟩ : ∃ row, m[i] = row := ⟨_, rfl⟩
              rw [hrow] at e2 hri hcell
              have hsi := hsz i (Nat.zero_le _) (by omega)
              have g1 : (p.r.map eI)[i]? = some (eI (gk i p.r)) := gk_get (by omega)
              have g2 : (p.c.map eI)[i]? = some (eI (gk i p.c)) := gk_get (by omega)
              simp +contextual -implicitDefEqProofs (maxSteps := 2000000) only [S_la3, e1, List.length_map, Int.natCast_zero, ruB, rh_no, Int.reduceLT, Int.reduceLE, Int.reduceAdd, Int.reduceSub, Int.reduceMul, Int.reduceNeg, Int.reduceToNat, Int.reduceEq, Int.reduceNe, Int.reduceTDiv, Int.reduceTMod, implies_true, putL, appN, appX, appC, Eng.Fi, reduceCtorEq, exists_eq_left', exists_eq_left, if_true, if_false, List.replicate, Nat.reduceAdd, Nat.reduceSub, Nat.reduceMul, Nat.reduceLeDiff, Nat.reduceLT, Nat.reduceEqDiff]
              refine Cor.lp (addC_good g_rCost (addC_good g_Has (addC_good g_Within (noC_good _)))) (noHx_good _) hm (S_la4 m p i s) (fun j => j ≤ m.length ∧ pfG m p i m.length 0 = pfG m p i (m.length - j) j) (fun j => m.length - j) (a := 0) ⟨Nat.zero_le _, rfl⟩ (Wkn.keep [0, 3, 8, 9, 10] rfl) ?_
              rintro f2 j ⟨hj, hf2⟩ go2
              rcases Nat.lt_or_ge j m.length with hlt2 | hge2
              · have u1 : ((j : Int) < (m.length : Int)) = True := eq_true (by omega)
                have u2 := hcell j hlt2
                have u3 : IntKind.wrap .i64 ((j : Int) + 1) = ((j + 1 : Nat) : Int) := suc_w (by omega)
                have u4 : (p.c.map eI)[j]? = some (eI (gk j p.c)) := gk_get (by omega)
                have hsj := hsz j (Nat.zero_le _) (by omega)
                have u5 : IntKind.wrap .i64 (gk i p.r + gk j p.c) = gk i p.r + gk j p.c := by unfold szR at hsi hsj; exact wrap64 (by omega) (by omega)
                have u6 : m.length - j = m.length - (j + 1) + 1 := by omega
                rw [u6, pfG] at hf2
                by_cases c1 : pfB m p i j
                · rw [if_pos c1] at hf2
                  have c1' : (cell m i (j : Int) < gk i p.r + gk j p.c) = True := eq_true c1
                  rw [hf2, if_neg (by simp)] at hf
                  rw [hf]
                  simp +contextual -implicitDefEqProofs (maxSteps := 2000000) only [S_la4, e2, u1, u2, u3, u4, u5, g1, c1', List.length_map, ruB, rh_no, Int.reduceLT, Int.reduceLE, Int.reduceAdd, Int.reduceSub, Int.reduceMul, Int.reduceNeg, Int.reduceToNat, Int.reduceEq, Int.reduceNe, Int.reduceTDiv, Int.reduceTMod, implies_true, putL, appN, appX, appC, Eng.Fi, reduceCtorEq, exists_eq_left', exists_eq_left, if_true, if_false, List.replicate, Nat.reduceAdd, Nat.reduceSub, Nat.reduceMul, Nat.reduceLeDiff, Nat.reduceLT, Nat.reduceEqDiff]
                · rw [if_neg c1] at hf2
                  have c1' : (cell m i (j : Int) < gk i p.r + gk j p.c) = False := eq_false c1
                  simp +contextual -implicitDefEqProofs (maxSteps := 2000000) only [S_la4, e2, u1, u2, u3, u4, u5, g1, c1', List.length_map, ruB, rh_no, Int.reduceLT, Int.reduceLE, Int.reduceAdd, Int.reduceSub, Int.reduceMul, Int.reduceNeg, Int.reduceToNat, Int.reduceEq, Int.reduceNe, Int.reduceTDiv, Int.reduceTMod, implies_true, putL, appN, appX, appC, Eng.Fi, reduceCtorEq, exists_eq_left', exists_eq_left, if_true, if_false, List.replicate, Nat.reduceAdd, Nat.reduceSub, Nat.reduceMul, Nat.reduceLeDiff, Nat.reduceLT, Nat.reduceEqDiff]
                  exact go2 _ (j + 1) ⟨hlt2, hf2⟩ (by omega) (Wkn.keep [0, 3, 8, 9, 10] rfl)
              · have u1 : ((j : Int) < (m.length : Int)) = False := eq_false (by omega)
                have ej : j = m.length := by omega
                rw [ej, Nat.sub_self, pfG] at hf2
                rw [hf2, if_pos rfl] at hf
                have hsn := cst_snoc m (p.a.take i) (gk i p.a)
                have hlt3 : i < p.a.length := by omega
                have hga : gk i p.a = p.a[i] := by rw [gk, List.getElem?_eq_getElem hlt3]; rfl
                have htk : p.a.take i ++ [gk i p.a] = p.a.take (i + 1) := by rw [List.take_succ_eq_append_getElem hlt3, hga]
                have hln : (p.a.take i).length = i := by rw [List.length_take]; omega
                rw [htk, hln] at hsn
                unfold szR at hsi
                have u4 : IntKind.wrap .i64 (s + gk i p.r) = s + gk i p.r := wrap64 (by omega) (by omega)
                have u5 : IntKind.wrap .i64 (s + gk i p.r + gk i p.c) = s + gk i p.r + gk i p.c := wrap64 (by omega) (by omega)
                have u6 : cst m (p.a.take i) - s + (cell m i (gk i p.a) - gk i p.r - gk i p.c) = cst m (p.a.take (i + 1)) - (s + gk i p.r + gk i p.c) := by omega
                rw [u6] at hf
                simp +contextual -implicitDefEqProofs (maxSteps := 2000000) only [S_la4, u1, u4, u5, g1, g2, e3, List.length_map, ruB, rh_no, Int.reduceLT, Int.reduceLE, Int.reduceAdd, Int.reduceSub, Int.reduceMul, Int.reduceNeg, Int.reduceToNat, Int.reduceEq, Int.reduceNe, Int.reduceTDiv, Int.reduceTMod, implies_true, putL, appN, appX, appC, Eng.Fi, reduceCtorEq, exists_eq_left', exists_eq_left, if_true, if_false, List.replicate, Nat.reduceAdd, Nat.reduceSub, Nat.reduceMul, Nat.reduceLeDiff, Nat.reduceLT, Nat.reduceEqDiff]
                exact go _ (i + 1, s + gk i p.r + gk i p.c) ⟨hlt, hf, by simp only; omega⟩ (by simp only; omega) (Wkn.keep [0, 3, 8, 9] rfl)
            · have e1 : ((i : Int) < (m.length : Int)) = False := eq_false (by omega)
              have ei : i = m.length := by omega
              rw [ei, Nat.sub_self, coG, List.take_of_length_le (by omega)] at hf
              rw [hf]
              by_cases c1 : s = cst m p.a
              · have c1' := eq_true c1
                rw [unl_t 13 (by omega : cst m p.a - s = 0)]
                simp +contextual -implicitDefEqProofs (maxSteps := 2000000) only [S_la3, e1, ycost, c1', List.length_map, not_true_eq_false, ruB, rh_no, Int.reduceLT, Int.reduceLE, Int.reduceAdd, Int.reduceSub, Int.reduceMul, Int.reduceNeg, Int.reduceToNat, Int.reduceEq, Int.reduceNe, Int.reduceTDiv, Int.reduceTMod, implies_true, putL, appN, appX, appC, Eng.Fi, reduceCtorEq, exists_eq_left', exists_eq_left, if_true, if_false, List.replicate, Nat.reduceAdd, Nat.reduceSub, Nat.reduceMul, Nat.reduceLeDiff, Nat.reduceLT, Nat.reduceEqDiff]
              · have c1' := eq_false c1
                rw [unl_f 13 (by omega : ¬ cst m p.a - s = 0)]
                simp +contextual -implicitDefEqProofs (maxSteps := 2000000) only [S_la3, e1, ycost, c1', List.length_map, not_false_eq_true, ruB, rh_no, Int.reduceLT, Int.reduceLE, Int.reduceAdd, Int.reduceSub, Int.reduceMul, Int.reduceNeg, Int.reduceToNat, Int.reduceEq, Int.reduceNe, Int.reduceTDiv, Int.reduceTMod, implies_true, putL, appN, appX, appC, Eng.Fi, reduceCtorEq, exists_eq_left', exists_eq_left, if_true, if_false, List.replicate, Nat.reduceAdd, Nat.reduceSub, Nat.reduceMul, Nat.reduceLeDiff, Nat.reduceLT, Nat.reduceEqDiff]
      · have h3' := eq_false h3
        have hs0 : shE m p = 10 := unl_f _ (fun q => h3 q.2)
        rw [caS, hs0, if_neg (by decide)]
        refine Cor.run (addC_good g_rCost (addC_good g_Has (addC_good g_Within (noC_good _)))) (noHx_good _) hm ?_
        simp +contextual -implicitDefEqProofs (maxSteps := 2000000) only [S_la0, h1', h2', h3', List.length_map, not_true_eq_false, not_false_eq_true, ruB, rh_no, Int.reduceLT, Int.reduceLE, Int.reduceAdd, Int.reduceSub, Int.reduceMul, Int.reduceNeg, Int.reduceToNat, Int.reduceEq, Int.reduceNe, Int.reduceTDiv, Int.reduceTMod, implies_true, putL, appN, appX, appC, Eng.Fi, reduceCtorEq, exists_eq_left', exists_eq_left, if_true, if_false, List.replicate, Nat.reduceAdd, Nat.reduceSub, Nat.reduceMul, Nat.reduceLeDiff, Nat.reduceLT, Nat.reduceEqDiff]
    · have h2' := eq_false h2
      have hs0 : shE m p = 10 := unl_f _ (fun q => h2 q.1.2)
      rw [caS, hs0, if_neg (by decide)]
      refine Cor.run (addC_good g_rCost (addC_good g_Has (addC_good g_Within (noC_good _)))) (noHx_good _) hm ?_
      simp +contextual -implicitDefEqProofs (maxSteps := 2000000) only [S_la0, h1', h2', List.length_map, not_true_eq_false, not_false_eq_true, ruB, rh_no, Int.reduceLT, Int.reduceLE, Int.reduceAdd, Int.reduceSub, Int.reduceMul, Int.reduceNeg, Int.reduceToNat, Int.reduceEq, Int.reduceNe, Int.reduceTDiv, Int.reduceTMod, implies_true, putL, appN, appX, appC, Eng.Fi, reduceCtorEq, exists_eq_left', exists_eq_left, if_true, if_false, List.replicate, Nat.reduceAdd, Nat.reduceSub, Nat.reduceMul, Nat.reduceLeDiff, Nat.reduceLT, Nat.reduceEqDiff]
  · have h1' := eq_false h1
    have hs0 : shE m p = 10 := unl_f _ (fun q => h1 q.1.1)
    rw [caS, hs0, if_neg (by decide)]
    refine Cor.run (addC_good g_rCost (addC_good g_Has (addC_good g_Within (noC_good _)))) (noHx_good _) hm ?_
    simp +contextual -implicitDefEqProofs (maxSteps := 2000000) only [S_la0, h1', List.length_map, not_true_eq_false, not_false_eq_true, ruB, rh_no, Int.reduceLT, Int.reduceLE, Int.reduceAdd, Int.reduceSub, Int.reduceMul, Int.reduceNeg, Int.reduceToNat, Int.reduceEq, Int.reduceNe, Int.reduceTDiv, Int.reduceTMod, implies_true, putL, appN, appX, appC, Eng.Fi, reduceCtorEq, exists_eq_left', exists_eq_left, if_true, if_false, List.replicate, Nat.reduceAdd, Nat.reduceSub, Nat.reduceMul, Nat.reduceLeDiff, Nat.reduceLT, Nat.reduceEqDiff]
noncomputable def cf_rCheckAssignment : List AV → Option AV
  | [.vs m_v, p_v] => onL dL m_v fun m => onWp p_v fun p => if (cmV m).2 = 0 then some (.tup [I (caS m p).1, I (caS m p).2]) else none
  | _ => none
theorem g_rCheckAssignment : Fn P 12 cf_rCheckAssignment := fun args v hh => by
  unfold cf_rCheckAssignment at hh; split at hh
  · obtain ⟨m, rfl, hh1⟩ := onL_inv dL_inv hh
    obtain ⟨p, rfl, hh2⟩ := onWp_inv hh1
    split at hh2
    · rename_i hc; have hk := Option.some.inj hh2; subst hk; exact k_rCheckAssignment _ _ hc
    · cases hh2
  · cases hh
theorem x_rCheckAssignment (m : List L) (p : Wp) (hc : ((cmV m).2 = 0) = True) : cf_rCheckAssignment [.vs (m.map eL), eWp p] = some (.tup [I (caS m p).1, I (caS m p).2]) := by
  simp only [cf_rCheckAssignment, onL_map dL_e, onWp_e]
  exact if_pos (by rw [hc]; trivial)
end Wa
open Go Go.Proofs Eng
set_option maxRecDepth 100000
set_option linter.unusedSimpArgs false
set_option linter.unusedVariables false
namespace Wa
def S_wa (m : List L) (p : Wp) : AState := ⟨[.vs (m.map eL), .any, .any, .vp [eWp p] 0 0, .bool false, .any, .any, .any, .any, .any, .any, .any, .any, .any, .any, .any, .any, .any, .any, .any, .any, .any, .any, .any, .any, .any, .any, .any, .any, .any, .any, .any, .any, .any, .any, .any, .any, .any, .any, .any, .any, .any, .any, .any, .any, .any, .any, .any, .any, .any, .any, .any, .any, .any, .any, .any, .any, .any, .any, .any, .any, .any, .any, .any, .any, .any, .any, .any], [], 0⟩
theorem k_WakeAccepted (m : List L) (p : Wp) (hm0 : m.length ≤ maxLen ∧ (∀ r ∈ m, r.length ≤ maxLen) ∧ p.a.length ≤ maxLen ∧ p.r.length ≤ maxLen ∧ p.c.length ≤ maxLen) : FOk P 3 [.vs (m.map eL), eWp p] (.bool true) := by
  have y1 := x_small6 m
  refine c3.fok (y := YH P noHx) (by simp only [subs, sub1, free_I, free_L]) ?_
  rw [bg_eq]
  refine Cor.seq (Cor.run (noC_good _) (noHx_good _) hm ?_)
  simp +contextual -implicitDefEqProofs (maxSteps := 2000000) only [eThen_normal, ruB, rh_no, Int.reduceLT, Int.reduceLE, Int.reduceAdd, Int.reduceSub, Int.reduceMul, Int.reduceNeg, Int.reduceToNat, Int.reduceEq, Int.reduceNe, Int.reduceTDiv, Int.reduceTMod, implies_true, putL, appN, appX, appC, Eng.Fi, reduceCtorEq, exists_eq_left', exists_eq_left, if_true, if_false, List.replicate, Nat.reduceAdd, Nat.reduceSub, Nat.reduceMul, Nat.reduceLeDiff, Nat.reduceLT, Nat.reduceEqDiff]
  refine Cor.wk (s2 := S_wa m p) (Wkn.to ⟨0, [], [0], 0, [0, 3, 4]⟩ rfl rfl (by simp [Wk.st, keepT, memN, Wk.fate, Wk.fate0, assoc, getE, Wk.hp, ABlk.sub, sub1, subs, S_wa, free_I, free_L])) ?_
  by_cases hs : smP m
  · rw [decide_eq_true hs] at y1
    by_cases h1 : 8 < (p.a.length : Int)
    · have h1' := eq_true h1
      refine Cor.run (addC_good g_small6 (addC_good g_awake (noC_good _))) (noHx_good _) hm ?_
      simp +contextual -implicitDefEqProofs (maxSteps := 2000000) only [S_wa, x_awake, y1, h1', List.length_map, not_true_eq_false, ruB, rh_no, Int.reduceLT, Int.reduceLE, Int.reduceAdd, Int.reduceSub, Int.reduceMul, Int.reduceNeg, Int.reduceToNat, Int.reduceEq, Int.reduceNe, Int.reduceTDiv, Int.reduceTMod, implies_true, putL, appN, appX, appC, Eng.Fi, reduceCtorEq, exists_eq_left', exists_eq_left, if_true, if_false, List.replicate, Nat.reduceAdd, Nat.reduceSub, Nat.reduceMul, Nat.reduceLeDiff, Nat.reduceLT, Nat.reduceEqDiff]
    · have h1' := eq_false h1
      by_cases h2 : 8 < (p.r.length : Int)
      · have h2' := eq_true h2
        refine Cor.run (addC_good g_small6 (addC_good g_awake (noC_good _))) (noHx_good _) hm ?_
        simp +contextual -implicitDefEqProofs (maxSteps := 2000000) only [S_wa, x_awake, y1, h1', h2', List.length_map, not_true_eq_false, ruB, rh_no, Int.reduceLT, Int.reduceLE, Int.reduceAdd, Int.reduceSub, Int.reduceMul, Int.reduceNeg, Int.reduceToNat, Int.reduceEq, Int.reduceNe, Int.reduceTDiv, Int.reduceTMod, implies_true, putL, appN, appX, appC, Eng.Fi, reduceCtorEq, exists_eq_left', exists_eq_left, if_true, if_false, List.replicate, Nat.reduceAdd, Nat.reduceSub, Nat.reduceMul, Nat.reduceLeDiff, Nat.reduceLT, Nat.reduceEqDiff]
      · have h2' := eq_false h2
        by_cases h3 : 8 < (p.c.length : Int)
        · have h3' := eq_true h3
          refine Cor.run (addC_good g_small6 (addC_good g_awake (noC_good _))) (noHx_good _) hm ?_
          simp +contextual -implicitDefEqProofs (maxSteps := 2000000) only [S_wa, x_awake, y1, h1', h2', h3', List.length_map, not_true_eq_false, ruB, rh_no, Int.reduceLT, Int.reduceLE, Int.reduceAdd, Int.reduceSub, Int.reduceMul, Int.reduceNeg, Int.reduceToNat, Int.reduceEq, Int.reduceNe, Int.reduceTDiv, Int.reduceTMod, implies_true, putL, appN, appX, appC, Eng.Fi, reduceCtorEq, exists_eq_left', exists_eq_left, if_true, if_false, List.replicate, Nat.reduceAdd, Nat.reduceSub, Nat.reduceMul, Nat.reduceLeDiff, Nat.reduceLT, Nat.reduceEqDiff]
        · have h3' := eq_false h3
          obtain ⟨s1, s2, s3⟩ := hs
          have y2 := x_CopyMatrix m (by simp only [eq_iff_iff, iff_true]; exact ⟨by omega, fun r hr => by have := s2 r hr; omega⟩)
          have y3 := x_CopyProof p (by simp only [eq_iff_iff, iff_true]; omega)
          have y4 := x_CheckAssignment m p (by simp only [eq_iff_iff, iff_true]; exact ⟨by omega, fun r hr => by have := s2 r hr; omega⟩)
          have y5 := x_rCheckMatrix m (by simp only [eq_iff_iff, iff_true]; exact ⟨by omega, fun r hr => by have := s2 r hr; omega⟩)
          by_cases h0 : (cmV m).2 = 0
          · have h0' := eq_true h0
            have y6 := x_rCheckAssignment m p (by simp only [h0])
            have hE : caV m p = caS m p := by
              unfold caV caS
              by_cases hq : shE m p = 0
              · rw [h0, hq, if_pos rfl, if_pos (by rfl)]
              · have hq2 : shE m p = 10 := by
                  unfold shE unl at hq ⊢
                  split
                  · rename_i q; rw [if_pos q] at hq; exact absurd rfl hq
                  · rfl
                rw [h0, hq2]; rfl
            rw [hE] at y4
            generalize caS m p = q at *
            refine Cor.run (addC_good g_rCheckAssignment (addC_good g_rCheckMatrix (addC_good g_CheckAssignment (addC_good g_CopyProof (addC_good g_CopyMatrix (addC_good g_small6 (addC_good g_awake (noC_good _)))))))) (noHx_good _) hm ?_
            simp +contextual -implicitDefEqProofs (maxSteps := 2000000) only [S_wa, x_awake, y1, y2, y3, y4, y5, y6, h0', h1', h2', h3', List.length_map, not_true_eq_false, ruB, rh_no, Int.reduceLT, Int.reduceLE, Int.reduceAdd, Int.reduceSub, Int.reduceMul, Int.reduceNeg, Int.reduceToNat, Int.reduceEq, Int.reduceNe, Int.reduceTDiv, Int.reduceTMod, implies_true, putL, appN, appX, appC, Eng.Fi, reduceCtorEq, exists_eq_left', exists_eq_left, if_true, if_false, List.replicate, Nat.reduceAdd, Nat.reduceSub, Nat.reduceMul, Nat.reduceLeDiff, Nat.reduceLT, Nat.reduceEqDiff]
          · have h0' := eq_false h0
            have hE : caV m p = (0, (cmV m).2) := by
              unfold caV
              have : firstE [(cmV m).2, shE m p] = (cmV m).2 := by rw [firstE, if_neg h0]
              rw [this, if_neg h0]
            rw [hE] at y4
            generalize cmV m = q at *
            refine Cor.run (addC_good g_rCheckMatrix (addC_good g_CheckAssignment (addC_good g_CopyProof (addC_good g_CopyMatrix (addC_good g_small6 (addC_good g_awake (noC_good _))))))) (noHx_good _) hm ?_
            simp +contextual -implicitDefEqProofs (maxSteps := 2000000) only [S_wa, x_awake, y1, y2, y3, y4, y5, h0', h1', h2', h3', List.length_map, not_false_eq_true, ruB, rh_no, Int.reduceLT, Int.reduceLE, Int.reduceAdd, Int.reduceSub, Int.reduceMul, Int.reduceNeg, Int.reduceToNat, Int.reduceEq, Int.reduceNe, Int.reduceTDiv, Int.reduceTMod, implies_true, putL, appN, appX, appC, Eng.Fi, reduceCtorEq, exists_eq_left', exists_eq_left, if_true, if_false, List.replicate, Nat.reduceAdd, Nat.reduceSub, Nat.reduceMul, Nat.reduceLeDiff, Nat.reduceLT, Nat.reduceEqDiff]
  · rw [decide_eq_false hs] at y1
    refine Cor.run (addC_good g_small6 (addC_good g_awake (noC_good _))) (noHx_good _) hm ?_
    simp +contextual -implicitDefEqProofs (maxSteps := 2000000) only [S_wa, x_awake, y1, not_false_eq_true, ruB, rh_no, Int.reduceLT, Int.reduceLE, Int.reduceAdd, Int.reduceSub, Int.reduceMul, Int.reduceNeg, Int.reduceToNat, Int.reduceEq, Int.reduceNe, Int.reduceTDiv, Int.reduceTMod, implies_true, putL, appN, appX, appC, Eng.Fi, reduceCtorEq, exists_eq_left', exists_eq_left, if_true, if_false, List.replicate, Nat.reduceAdd, Nat.reduceSub, Nat.reduceMul, Nat.reduceLeDiff, Nat.reduceLT, Nat.reduceEqDiff]
theorem arProof {n : Nat} {u : AV} (h : ArG P n 25 u) : ∃ p : Wp, u = eWp p ∧ p.a.length ≤ maxLen ∧ p.r.length ≤ maxLen ∧ p.c.length ≤ maxLen := by
  obtain ⟨us, rfl, hh⟩ := h.agg 6 (ks := [.sl false [.i], .sl false [.i], .sl false [.i]]) (by kernel_rfl) (by kernel_rfl)
  simp only [ShV, ShV1] at hh
  obtain ⟨_, _, rfl, ⟨a, rfl, ha, hal⟩, _, _, rfl, ⟨b, rfl, hb, hbl⟩, _, _, rfl, ⟨c, rfl, hc, hcl⟩, rfl⟩ := hh
  obtain ⟨ga, e1, e2⟩ := sl_enc (α := Int) eI (ag := false) (fun p hp => by
    obtain ⟨_, _, rfl, ⟨a, rfl, _⟩, rfl⟩ := hp
    exact ⟨a, rfl⟩) ha
  obtain ⟨bs, e3, e4⟩ := sl_enc (α := Int) eI (ag := false) (fun p hp => by
    obtain ⟨_, _, rfl, ⟨a, rfl, _⟩, rfl⟩ := hp
    exact ⟨a, rfl⟩) hb
  obtain ⟨cs, e5, e6⟩ := sl_enc (α := Int) eI (ag := false) (fun p hp => by
    obtain ⟨_, _, rfl, ⟨a, rfl, _⟩, rfl⟩ := hp
    exact ⟨a, rfl⟩) hc
  rw [e1, e3, e5]
  exact ⟨⟨ga, bs, cs⟩, rfl, by rw [e2]; exact hal, by rw [e4]; exact hbl, by rw [e6]; exact hcl⟩
theorem arLists0 {n : Nat} {u : AV} (h : ArG P n 22 u) : ∃ m : List L, u = .vs (m.map eL) ∧ m.length ≤ maxLen ∧ ∀ r ∈ m, r.length ≤ maxLen := by
  have hh := h.one 6 (k := .sl false [.sl false [.i]]) (by kernel_rfl) (by kernel_rfl)
  simp only [ShV1] at hh
  obtain ⟨l, rfl, hl, hlen⟩ := hh
  obtain ⟨gs, e1, e2⟩ := sl_enc (α := {r : L // r.length ≤ maxLen}) (fun r => eL r.1) (ag := false) (fun p hp => by
    simp only [ShV, ShV1] at hp
    obtain ⟨_, _, rfl, ⟨l', rfl, hl', hlen'⟩, rfl⟩ := hp
    obtain ⟨gs, e1, e2⟩ := sl_enc (α := Int) eI (ag := false) (fun p hp => by
      obtain ⟨_, _, rfl, ⟨a, rfl, _⟩, rfl⟩ := hp
      exact ⟨a, rfl⟩) hl'
    exact ⟨⟨gs, by rw [e2]; exact hlen'⟩, by show AV.vs _ = AV.vs _; rw [e1]⟩) hl
  rw [e1]
  refine ⟨gs.map Subtype.val, by rw [List.map_map]; rfl, by rw [List.length_map, e2]; exact hlen, fun r hr => ?_⟩
  obtain ⟨x, _, rfl⟩ := List.mem_map.1 hr
  exact x.2
theorem law3 (n0 : Nat) (u0 : AV) (a0 : ArG P n0 22 u0) (n1 : Nat) (u1 : AV) (a1 : ArG P n1 25 u1) : FOk P 3 [u0, u1] (.bool true) := by
  obtain ⟨m, rfl, h1, h2⟩ := arLists0 a0
  obtain ⟨p, rfl, h3, h4, h5⟩ := arProof a1
  exact k_WakeAccepted m p ⟨h1, h2, h3, h4, h5⟩
end Wa
