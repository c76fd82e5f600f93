import Derived.Test.YtabkbhpeeefmgabEngS9
import Derived.Test.YtabkbhpeeefmgabW910
import Derived.Test.YtabkbhpeeefmgabEngSH
open Go Go.Proofs Eng
set_option maxRecDepth 100000
set_option linter.unusedSimpArgs false
set_option linter.unusedVariables false
def a6 : AC := .seq (.ops false [] [⟨some 0, .p (.mov), [.c (.bool false)], none⟩]) (.seq (.ops false [] [⟨some 16, .call 31, [], none⟩, ⟨some 17, .call 32, [], none⟩, ⟨some 18, .p (.build [.int .i64 0, .int .i64 0] [(0, 1), (1, 1)]), [.c (.int .i64 3), .c (.int .i64 14)], none⟩, ⟨some 19, .call 30, [.t 16, .t 17, .t 18], none⟩, ⟨some 15, .p (.mov), [.t 19], none⟩, ⟨some 20, .p (.ext 0), [.t 15], none⟩, ⟨some 21, .p (.ext 1), [.t 15], none⟩, ⟨some 1, .p (.mov), [.t 20], none⟩, ⟨some 2, .p (.mov), [.t 21], none⟩]) (.seq (.ops false [] [⟨some 23, .call 34, [], none⟩, ⟨some 24, .call 33, [.t 23], none⟩, ⟨some 22, .p (.mov), [.t 24], none⟩, ⟨some 25, .p (.ext 0), [.t 22], none⟩, ⟨some 26, .p (.ext 1), [.t 22], none⟩, ⟨some 27, .p (.ext 2), [.t 22], none⟩, ⟨some 3, .alloc 75 4 [.agg [.int .i64 0, .int .i64 0, .int .i64 0, .int .i64 0]], [], none⟩, ⟨none, .store 4 true, [.t 3, .t 25], none⟩, ⟨some 4, .p (.mov), [.t 26], none⟩, ⟨some 5, .p (.mov), [.t 27], none⟩]) (.seq (.ops false [] [⟨some 29, .fbs 1, [.c (.int .i64 1), .c (.int .i64 2)], none⟩, ⟨some 30, .fbs 1, [.c (.int .i64 2), .c (.int .i64 4)], none⟩, ⟨some 31, .fbs 1, [.t 29, .t 30], none⟩, ⟨some 32, .call 23, [.t 31], none⟩, ⟨some 28, .p (.mov), [.t 32], none⟩, ⟨some 33, .p (.ext 0), [.t 28], none⟩, ⟨some 34, .p (.ext 1), [.t 28], none⟩, ⟨some 35, .p (.ext 2), [.t 28], none⟩, ⟨some 6, .p (.mov), [.t 33], none⟩, ⟨some 7, .p (.mov), [.t 34], none⟩, ⟨some 8, .p (.mov), [.t 35], none⟩]) (.seq (.ops false [] [⟨some 37, .call 36, [], none⟩, ⟨some 38, .call 35, [.t 37, .c (.int .i64 5)], none⟩, ⟨some 36, .p (.mov), [.t 38], none⟩, ⟨some 39, .p (.ext 0), [.t 36], none⟩, ⟨some 40, .p (.ext 1), [.t 36], none⟩, ⟨some 9, .p (.mov), [.t 39], none⟩, ⟨some 10, .p (.mov), [.t 40], none⟩]) (.seq (.ops false [] [⟨some 42, .call 38, [], none⟩, ⟨some 43, .call 39, [], none⟩, ⟨some 44, .call 37, [.t 42, .t 43, .c (.int .i64 3)], none⟩, ⟨some 41, .p (.mov), [.t 44], none⟩, ⟨some 45, .p (.ext 0), [.t 41], none⟩, ⟨some 46, .p (.ext 1), [.t 41], none⟩, ⟨some 11, .alloc 40 6 [.agg [.int .i64 0, .int .i64 0, .int .i64 0, .int .i64 0, .int .i64 0, .int .i64 0]], [], none⟩, ⟨none, .store 6 true, [.t 11, .t 45], none⟩, ⟨some 12, .p (.mov), [.t 46], none⟩]) (.seq (.ops false [] [⟨some 48, .call 38, [], none⟩, ⟨some 49, .call 39, [], none⟩, ⟨some 50, .call 40, [], none⟩, ⟨some 51, .call 15, [.t 48, .t 49, .t 50], none⟩, ⟨some 47, .p (.mov), [.t 51], none⟩, ⟨some 52, .p (.ext 0), [.t 47], none⟩, ⟨some 53, .p (.ext 1), [.t 47], none⟩, ⟨some 13, .p (.mov), [.t 52], none⟩, ⟨some 14, .p (.mov), [.t 53], none⟩]) (.seq (.ops true [] [⟨some 54, .p (.mov), [.t 2], none⟩, ⟨some 55, .p (.binI .eql), [.t 54, .c (.int .i64 0)], none⟩, ⟨some 56, .p (.mov), [.t 55], none⟩, ⟨some 57, .p (.mov), [.t 1], some (56, true)⟩, ⟨some 58, .p (.binI .eql), [.t 57, .c (.int .i64 20)], some (56, true)⟩, ⟨some 59, .p (.pick), [.t 56, .t 58, .c (.bool false)], none⟩, ⟨some 60, .p (.mov), [.t 59], none⟩, ⟨some 61, .p (.mov), [.t 5], some (60, true)⟩, ⟨some 62, .p (.binI .eql), [.t 61, .c (.int .i64 0)], some (60, true)⟩, ⟨some 63, .p (.pick), [.t 60, .t 62, .c (.bool false)], none⟩, ⟨some 64, .p (.mov), [.t 63], none⟩, ⟨some 65, .load 4 true, [.t 3], some (64, true)⟩, ⟨some 66, .call 31, [], some (64, true)⟩, ⟨some 67, .p (.eqa false [.i, .i, .i, .i]), [.t 65, .t 66], some (64, true)⟩, ⟨some 68, .p (.pick), [.t 64, .t 67, .c (.bool false)], none⟩, ⟨some 69, .p (.mov), [.t 68], none⟩, ⟨some 70, .p (.mov), [.t 4], some (69, true)⟩, ⟨some 71, .p (.binI .eql), [.t 70, .c (.int .i64 0)], some (69, true)⟩, ⟨some 72, .p (.pick), [.t 69, .t 71, .c (.bool false)], none⟩, ⟨some 73, .p (.mov), [.t 72], none⟩, ⟨some 74, .p (.mov), [.t 8], some (73, true)⟩, ⟨some 75, .p (.binI .eql), [.t 74, .c (.int .i64 0)], some (73, true)⟩, ⟨some 76, .p (.pick), [.t 73, .t 75, .c (.bool false)], none⟩, ⟨some 77, .p (.mov), [.t 76], none⟩, ⟨some 78, .p (.mov), [.t 7], some (77, true)⟩, ⟨some 79, .p (.binI .eql), [.t 78, .c (.int .i64 4)], some (77, true)⟩, ⟨some 80, .p (.pick), [.t 77, .t 79, .c (.bool false)], none⟩, ⟨some 81, .p (.mov), [.t 80], none⟩, ⟨some 82, .p (.mov), [.t 6], some (81, true)⟩, ⟨some 83, .fbs 1, [.c (.int .i64 1), .c (.int .i64 0)], some (81, true)⟩, ⟨some 84, .call 25, [.t 82, .t 83], some (81, true)⟩, ⟨some 85, .p (.pick), [.t 81, .t 84, .c (.bool false)], none⟩, ⟨some 86, .p (.mov), [.t 85], none⟩, ⟨some 87, .p (.mov), [.t 10], some (86, true)⟩, ⟨some 88, .p (.binI .eql), [.t 87, .c (.int .i64 0)], some (86, true)⟩, ⟨some 89, .p (.pick), [.t 86, .t 88, .c (.bool false)], none⟩, ⟨some 90, .p (.mov), [.t 89], none⟩, ⟨some 91, .p (.mov), [.t 9], some (90, true)⟩, ⟨some 92, .p (.build [.int .i64 0, .int .i64 0] [(0, 1), (1, 1)]), [.c (.int .i64 0), .c (.int .i64 0)], some (90, true)⟩, ⟨some 93, .p (.build [.int .i64 0, .int .i64 0] [(0, 1), (1, 1)]), [.c (.int .i64 1), .c (.int .i64 0)], some (90, true)⟩, ⟨some 94, .fbs 2, [.t 92, .t 93], some (90, true)⟩, ⟨some 95, .p (.build [.int .i64 0, .int .i64 0] [(0, 1), (1, 1)]), [.c (.int .i64 1), .c (.int .i64 1)], some (90, true)⟩, ⟨some 96, .p (.build [.int .i64 0, .int .i64 0] [(0, 1), (1, 1)]), [.c (.int .i64 2), .c (.int .i64 0)], some (90, true)⟩, ⟨some 97, .fbs 2, [.t 95, .t 96], some (90, true)⟩, ⟨some 98, .fbs 1, [.t 94, .t 97], some (90, true)⟩, ⟨some 99, .call 41, [.t 91, .t 98], some (90, true)⟩, ⟨some 100, .p (.pick), [.t 90, .t 99, .c (.bool false)], none⟩, ⟨some 101, .p (.mov), [.t 100], none⟩, ⟨some 102, .p (.mov), [.t 12], some (101, true)⟩, ⟨some 103, .p (.binI .eql), [.t 102, .c (.int .i64 0)], some (101, true)⟩, ⟨some 104, .p (.pick), [.t 101, .t 103, .c (.bool false)], none⟩, ⟨some 105, .p (.mov), [.t 104], none⟩, ⟨some 106, .load 6 true, [.t 11], some (105, true)⟩, ⟨some 107, .p (.build [.int .i64 0, .int .i64 0] [(0, 1), (1, 1)]), [.c (.int .i64 (-3)), .c (.int .i64 5)], some (105, true)⟩, ⟨some 108, .p (.build [.int .i64 0, .int .i64 0] [(0, 1), (1, 1)]), [.c (.int .i64 4), .c (.int .i64 9)], some (105, true)⟩, ⟨some 109, .p (.build [.int .i64 0, .int .i64 0] [(0, 1), (1, 1)]), [.c (.int .i64 5), .c (.int .i64 10)], some (105, true)⟩, ⟨some 110, .p (.build [.int .i64 0, .int .i64 0, .int .i64 0, .int .i64 0, .int .i64 0, .int .i64 0] [(0, 2), (2, 2), (4, 2)]), [.t 107, .t 108, .t 109], some (105, true)⟩, ⟨some 111, .p (.eqa false [.i, .i, .i, .i, .i, .i]), [.t 106, .t 110], some (105, true)⟩, ⟨some 112, .p (.pick), [.t 105, .t 111, .c (.bool false)], none⟩, ⟨some 113, .p (.mov), [.t 112], none⟩, ⟨some 114, .p (.mov), [.t 14], some (113, true)⟩, ⟨some 115, .p (.binI .eql), [.t 114, .c (.int .i64 0)], some (113, true)⟩, ⟨some 116, .p (.pick), [.t 113, .t 115, .c (.bool false)], none⟩, ⟨some 117, .p (.mov), [.t 116], none⟩, ⟨some 118, .p (.mov), [.t 13], some (117, true)⟩, ⟨some 119, .p (.binI .eql), [.t 118, .c (.int .i64 8)], some (117, true)⟩, ⟨some 120, .p (.pick), [.t 117, .t 119, .c (.bool false)], none⟩, ⟨some 0, .p (.mov), [.t 120], none⟩]) (.ret))))))))
theorem c6 : FnC Try.prog 6 121 a6 [.tmp 0] := ⟨Try.call6, _, _, Try.func6, rfl, by kernel_rfl, by kernel_rfl, rfl⟩
def a13 : AC := .seq (.ops false [] [⟨some 3, .box 40 6 1 true, [.t 0], none⟩, ⟨some 4, .box 45 6 1 true, [.t 1], none⟩, ⟨some 5, .box 47 7 1 true, [.t 2], none⟩, ⟨some 6, .p (.mov), [.c (.int .i64 0)], none⟩]) (.seq (.seq (.ops false [] [⟨some 8, .load 6 true, [.t 3], none⟩, ⟨some 9, .load 6 true, [.t 4], none⟩, ⟨some 10, .call 49, [.t 8, .t 9], none⟩, ⟨some 7, .p (.mov), [.t 10], none⟩]) (.seq (.ops false [] [⟨some 11, .p (.mov), [.t 7], none⟩, ⟨some 12, .p (.binI .neq), [.t 11, .c (.int .i64 0)], none⟩]) (.cond (.t 12) (.seq (.ops false [] [⟨some 13, .p (.mov), [.t 7], none⟩, ⟨some 6, .p (.mov), [.t 13], none⟩]) (.ret)) (.skip)))) (.seq (.ops false [] [⟨some 14, .load 7 true, [.t 5], none⟩, ⟨some 15, .call 50, [.t 14], none⟩, ⟨some 6, .p (.mov), [.t 15], none⟩]) (.ret)))
theorem c13 : FnC Try.prog 13 16 a13 [.tmp 6] := ⟨Try.call13, _, _, Try.func13, rfl, by kernel_rfl, by kernel_rfl, rfl⟩
def a34 : AC := .seq (.ops false [] [⟨some 0, .alloc 84 10 [.agg [.int .i64 0, .int .i64 0, .int .i64 0, .int .i64 0, .int .i64 0, .nilslice, .int .i64 0, .int .i64 0, .int .i64 0, .nilslice]], [], none⟩]) (.seq (.ops false [] [⟨some 1, .p (.build [.int .i64 0, .int .i64 0] [(1, 1)]), [.c (.int .i64 1)], none⟩, ⟨some 2, .p (.build [.int .i64 0, .int .i64 0] [(0, 1), (1, 1)]), [.c (.int .i64 10), .c (.int .i64 10)], none⟩, ⟨some 3, .bsl 3 1, [.c (.int .i64 5), .c (.int .i64 10)], none⟩, ⟨some 4, .call 32, [], none⟩, ⟨some 5, .p (.build [.int .i64 0, .int .i64 0] [(0, 1), (1, 1)]), [.c (.int .i64 3), .c (.int .i64 14)], none⟩, ⟨some 6, .p (.build [.int .i64 0, .int .i64 0, .int .i64 0] [(0, 2), (2, 1)]), [.t 5, .c (.int .i64 20)], none⟩, ⟨some 7, .bsl 126 3, [.t 6], none⟩, ⟨some 8, .p (.build [.int .i64 0, .int .i64 0, .int .i64 0, .int .i64 0, .int .i64 0, .nilslice, .int .i64 0, .int .i64 0, .int .i64 0, .nilslice] [(0, 2), (2, 2), (4, 1), (5, 1), (6, 3), (9, 1)]), [.t 1, .t 2, .c (.int .i64 3), .t 3, .t 4, .t 7], none⟩, ⟨none, .store 10 true, [.t 0, .t 8], none⟩]) (.ret))
theorem c34 : FnC Try.prog 34 9 a34 [.cell 0 10 true] := ⟨Try.call34, _, _, Try.func34, rfl, by kernel_rfl, by kernel_rfl, rfl⟩
def a35 : AC := .seq (.ops false [] [⟨some 4, .p (.mov), [.c (.nilslice)], none⟩, ⟨some 5, .p (.mov), [.c (.int .i64 0)], none⟩]) (.seq (.seq (.ops false [] [⟨some 15, .p (.mov), [.t 0], none⟩, ⟨some 16, .p (.lenS), [.t 15], none⟩, ⟨some 17, .p (.binI .gtr), [.t 16, .c (.int .i64 6)], none⟩]) (.cond (.t 17) (.seq (.ops false [] [⟨some 4, .p (.mov), [.c (.nilslice)], none⟩, ⟨some 5, .p (.mov), [.c (.int .i64 8)], none⟩]) (.ret)) (.skip))) (.seq (.seq (.ops false [] [⟨some 18, .p (.mov), [.t 0], none⟩, ⟨some 19, .call 68, [.t 18, .c (.fn 69 [] [])], none⟩, ⟨some 20, .p (.mov), [.t 1], none⟩, ⟨some 21, .call 70, [.t 20], none⟩, ⟨some 22, .fbs 1, [.t 19, .t 21], none⟩, ⟨some 23, .call 43, [.t 22], none⟩, ⟨some 6, .p (.mov), [.t 23], none⟩]) (.seq (.ops false [] [⟨some 24, .p (.mov), [.t 6], none⟩, ⟨some 25, .p (.binI .neq), [.t 24, .c (.int .i64 0)], none⟩]) (.cond (.t 25) (.seq (.ops false [] [⟨some 26, .p (.mov), [.t 6], none⟩, ⟨some 4, .p (.mov), [.c (.nilslice)], none⟩, ⟨some 5, .p (.mov), [.t 26], none⟩]) (.ret)) (.skip)))) (.seq (.ops false [] [⟨some 7, .p (.mov), [.c (.nilslice)], none⟩]) (.seq (.ops false [] [⟨some 8, .p (.mov), [.c (.nilslice)], none⟩]) (.seq (.seq (.ops false [] [⟨some 27, .p (.mov), [.t 0], none⟩, ⟨some 28, .p (.lenS), [.t 27], none⟩, ⟨some 29, .p (.mov), [.c (.int .i64 0)], none⟩]) (.block 0 (.loop (.seq (.ops false [] [⟨some 30, .p (.binI .lss), [.t 29, .t 28], none⟩]) (.seq (.cond (.t 30) (.skip) (.exit 0)) (.seq (.block 1 (.seq (.ops false [] [⟨some 31, .p (.mov), [.t 29], none⟩, ⟨some 32, .p (.iaddrS 1), [.t 27, .t 29], none⟩, ⟨some 33, .load 1 false, [.t 32], none⟩, ⟨some 9, .p (.mov), [.t 31], none⟩, ⟨some 10, .p (.mov), [.t 33], none⟩]) (.seq (.ops false [] [⟨some 34, .fbs 1, [.c (.int .i64 (-1))], none⟩, ⟨some 35, .p (.mov), [.t 10], none⟩, ⟨some 36, .p (.lenS), [.t 35], none⟩, ⟨some 37, .call 71, [.t 34, .t 36], none⟩, ⟨some 11, .p (.mov), [.t 37], none⟩]) (.seq (.seq (.ops false [] [⟨some 38, .p (.mov), [.t 9], none⟩, ⟨some 39, .p (.binI .gtr), [.t 38, .c (.int .i64 0)], none⟩]) (.cond (.t 39) (.seq (.ops false [] [⟨some 40, .p (.mov), [.t 0], none⟩, ⟨some 41, .p (.mov), [.t 9], none⟩, ⟨some 42, .p (.binI .sub), [.t 41, .c (.int .i64 1)], none⟩, ⟨some 43, .p (.iaddrS 1), [.t 40, .t 42], none⟩, ⟨some 44, .load 1 false, [.t 43], none⟩, ⟨some 45, .p (.mov), [.t 10], none⟩, ⟨some 46, .p (.mov), [.t 1], none⟩, ⟨some 47, .call 72, [.t 44, .t 45, .t 46], none⟩, ⟨some 48, .p (.lenS), [.t 47], none⟩, ⟨some 49, .p (.mov), [.c (.int .i64 0)], none⟩]) (.block 2 (.loop (.seq (.ops false [] [⟨some 50, .p (.binI .lss), [.t 49, .t 48], none⟩]) (.seq (.cond (.t 50) (.skip) (.exit 2)) (.seq (.block 3 (.seq (.ops false [] [⟨some 51, .p (.mov), [.t 49], none⟩, ⟨some 52, .p (.iaddrS 1), [.t 47, .t 49], none⟩, ⟨some 53, .load 1 false, [.t 52], none⟩, ⟨some 12, .p (.mov), [.t 51], none⟩, ⟨some 13, .p (.mov), [.t 53], none⟩]) (.seq (.ops false [] [⟨some 54, .p (.mov), [.t 13], none⟩, ⟨some 55, .p (.binI .geq), [.t 54, .c (.int .i64 0)], none⟩]) (.cond (.t 55) (.ops false [] [⟨some 56, .p (.mov), [.t 11], none⟩, ⟨some 57, .p (.mov), [.t 13], none⟩, ⟨some 58, .p (.mov), [.t 8], none⟩, ⟨some 59, .p (.mov), [.t 12], none⟩, ⟨some 60, .p (.iaddrS 1), [.t 58, .t 59], none⟩, ⟨some 61, .load 1 false, [.t 60], none⟩, ⟨some 62, .p (.iaddrS 1), [.t 56, .t 57], none⟩, ⟨none, .store 1 false, [.t 62, .t 61], none⟩]) (.skip))))) (.ops false [] [⟨some 63, .p (.binI .add), [.t 49, .c (.int .i64 1)], none⟩, ⟨some 49, .p (.mov), [.t 63], none⟩]))))))) (.skip))) (.seq (.seq (.ops false [] [⟨some 64, .p (.mov), [.t 10], none⟩, ⟨some 65, .p (.lenS), [.t 64], none⟩, ⟨some 66, .p (.mov), [.c (.int .i64 0)], none⟩]) (.block 4 (.loop (.seq (.ops false [] [⟨some 67, .p (.binI .lss), [.t 66, .t 65], none⟩]) (.seq (.cond (.t 67) (.skip) (.exit 4)) (.seq (.block 5 (.seq (.ops false [] [⟨some 68, .p (.mov), [.t 66], none⟩, ⟨some 14, .p (.mov), [.t 68], none⟩]) (.seq (.seq (.ops false [] [⟨some 69, .p (.mov), [.t 11], none⟩, ⟨some 70, .p (.mov), [.t 14], none⟩, ⟨some 71, .p (.iaddrS 1), [.t 69, .t 70], none⟩, ⟨some 72, .load 1 false, [.t 71], none⟩, ⟨some 73, .p (.binI .lss), [.t 72, .c (.int .i64 0)], none⟩]) (.cond (.t 73) (.seq (.ops false [] [⟨some 74, .p (.mov), [.t 11], none⟩, ⟨some 75, .p (.mov), [.t 14], none⟩, ⟨some 76, .p (.mov), [.t 7], none⟩, ⟨some 77, .p (.lenS), [.t 76], none⟩, ⟨some 78, .p (.iaddrS 1), [.t 74, .t 75], none⟩, ⟨none, .store 1 false, [.t 78, .t 77], none⟩]) (.ops false [] [⟨some 79, .p (.mov), [.t 7], none⟩, ⟨some 80, .fbs 1, [.c (.nilslice)], none⟩, ⟨some 81, .app 98 1 24, [.t 79, .t 80], none⟩, ⟨some 7, .p (.mov), [.t 81], none⟩])) (.skip))) (.ops true [(4, 16)] [⟨some 82, .p (.mov), [.t 7], none⟩, ⟨some 83, .p (.mov), [.t 11], none⟩, ⟨some 84, .p (.mov), [.t 14], none⟩, ⟨some 85, .p (.iaddrS 1), [.t 83, .t 84], none⟩, ⟨some 86, .load 1 false, [.t 85], none⟩, ⟨some 87, .p (.mov), [.t 7], none⟩, ⟨some 88, .p (.mov), [.t 11], none⟩, ⟨some 89, .p (.mov), [.t 14], none⟩, ⟨some 90, .p (.iaddrS 1), [.t 88, .t 89], none⟩, ⟨some 91, .load 1 false, [.t 90], none⟩, ⟨some 92, .p (.iaddrS 1), [.t 87, .t 91], none⟩, ⟨some 93, .load 1 false, [.t 92], none⟩, ⟨some 94, .p (.mov), [.t 9], none⟩, ⟨some 95, .p (.mov), [.t 14], none⟩, ⟨some 96, .p (.build [.int .i64 0, .int .i64 0] [(0, 1), (1, 1)]), [.t 94, .t 95], none⟩, ⟨some 97, .fbs 2, [.t 96], none⟩, ⟨some 98, .app 97 2 16, [.t 93, .t 97], none⟩, ⟨some 99, .p (.iaddrS 1), [.t 82, .t 86], none⟩, ⟨none, .store 1 false, [.t 99, .t 98], none⟩])))) (.ops false [] [⟨some 100, .p (.binI .add), [.t 66, .c (.int .i64 1)], none⟩, ⟨some 66, .p (.mov), [.t 100], none⟩]))))))) (.ops false [] [⟨some 101, .p (.mov), [.t 11], none⟩, ⟨some 8, .p (.mov), [.t 101], none⟩])))))) (.ops false [] [⟨some 102, .p (.binI .add), [.t 29, .c (.int .i64 1)], none⟩, ⟨some 29, .p (.mov), [.t 102], none⟩]))))))) (.seq (.ops false [] [⟨some 103, .p (.mov), [.t 7], none⟩, ⟨some 4, .p (.mov), [.t 103], none⟩, ⟨some 5, .p (.mov), [.c (.int .i64 0)], none⟩]) (.ret)))))))
theorem c35 : FnC Try.prog 35 104 a35 [.tmp 4, .tmp 5] := ⟨Try.call35, _, _, Try.func35, rfl, by kernel_rfl, by kernel_rfl, rfl⟩
def a36 : AC := .seq (.ops false [] [⟨some 0, .p (.mov), [.c (.nilslice)], none⟩]) (.seq (.ops false [] [⟨some 1, .call 73, [.c (.int .i64 0), .c (.int .i64 10), .c (.int .i64 10)], none⟩, ⟨some 2, .bsl 57 3, [.t 1], none⟩, ⟨some 3, .call 73, [.c (.int .i64 2), .c (.int .i64 9), .c (.int .i64 8)], none⟩, ⟨some 4, .call 73, [.c (.int .i64 50), .c (.int .i64 50), .c (.int .i64 5)], none⟩, ⟨some 5, .bsl 57 3, [.t 3, .t 4], none⟩, ⟨some 6, .call 73, [.c (.int .i64 51), .c (.int .i64 49), .c (.int .i64 5)], none⟩, ⟨some 7, .bsl 57 3, [.t 6], none⟩, ⟨some 8, .bsl 41 1, [.t 2, .t 5, .t 7], none⟩, ⟨some 0, .p (.mov), [.t 8], none⟩]) (.ret))
theorem c36 : FnC Try.prog 36 9 a36 [.tmp 0] := ⟨Try.call36, _, _, Try.func36, rfl, by kernel_rfl, by kernel_rfl, rfl⟩
def a41 : AC := .seq (.ops false [] [⟨some 4, .p (.mov), [.c (.bool false)], none⟩]) (.seq (.seq (.ops false [] [⟨some 7, .p (.mov), [.t 0], none⟩, ⟨some 8, .p (.lenS), [.t 7], none⟩, ⟨some 9, .p (.mov), [.t 1], none⟩, ⟨some 10, .p (.lenS), [.t 9], none⟩, ⟨some 11, .p (.binI .neq), [.t 8, .t 10], none⟩]) (.cond (.t 11) (.seq (.ops false [] [⟨some 4, .p (.mov), [.c (.bool false)], none⟩]) (.ret)) (.skip))) (.seq (.seq (.ops false [] [⟨some 5, .p (.mov), [.c (.int .i64 0)], none⟩]) (.block 0 (.loop (.seq (.seq (.ops false [] [⟨some 12, .p (.mov), [.t 5], none⟩, ⟨some 13, .p (.mov), [.t 0], none⟩, ⟨some 14, .p (.lenS), [.t 13], none⟩, ⟨some 15, .p (.binI .lss), [.t 12, .t 14], none⟩]) (.cond (.t 15) (.skip) (.exit 0))) (.seq (.block 1 (.seq (.seq (.ops true [] [⟨some 18, .p (.mov), [.t 0], none⟩, ⟨some 19, .p (.mov), [.t 5], none⟩, ⟨some 20, .p (.iaddrS 1), [.t 18, .t 19], none⟩, ⟨some 21, .load 1 false, [.t 20], none⟩, ⟨some 22, .p (.lenS), [.t 21], none⟩, ⟨some 23, .p (.mov), [.t 1], none⟩, ⟨some 24, .p (.mov), [.t 5], none⟩, ⟨some 25, .p (.iaddrS 1), [.t 23, .t 24], none⟩, ⟨some 26, .load 1 false, [.t 25], none⟩, ⟨some 27, .p (.lenS), [.t 26], none⟩, ⟨some 28, .p (.binI .neq), [.t 22, .t 27], none⟩]) (.cond (.t 28) (.seq (.ops false [] [⟨some 4, .p (.mov), [.c (.bool false)], none⟩]) (.ret)) (.skip))) (.seq (.ops false [] [⟨some 6, .p (.mov), [.c (.int .i64 0)], none⟩]) (.block 2 (.loop (.seq (.seq (.ops false [] [⟨some 29, .p (.mov), [.t 6], none⟩, ⟨some 30, .p (.mov), [.t 0], none⟩, ⟨some 31, .p (.mov), [.t 5], none⟩, ⟨some 32, .p (.iaddrS 1), [.t 30, .t 31], none⟩, ⟨some 33, .load 1 false, [.t 32], none⟩, ⟨some 34, .p (.lenS), [.t 33], none⟩, ⟨some 35, .p (.binI .lss), [.t 29, .t 34], none⟩]) (.cond (.t 35) (.skip) (.exit 2))) (.seq (.block 3 (.seq (.ops true [] [⟨some 38, .p (.mov), [.t 0], none⟩, ⟨some 39, .p (.mov), [.t 5], none⟩, ⟨some 40, .p (.iaddrS 1), [.t 38, .t 39], none⟩, ⟨some 41, .load 1 false, [.t 40], none⟩, ⟨some 42, .p (.mov), [.t 6], none⟩, ⟨some 43, .p (.iaddrS 2), [.t 41, .t 42], none⟩, ⟨some 44, .load 2 true, [.t 43], none⟩, ⟨some 45, .p (.mov), [.t 1], none⟩, ⟨some 46, .p (.mov), [.t 5], none⟩, ⟨some 47, .p (.iaddrS 1), [.t 45, .t 46], none⟩, ⟨some 48, .load 1 false, [.t 47], none⟩, ⟨some 49, .p (.mov), [.t 6], none⟩, ⟨some 50, .p (.iaddrS 2), [.t 48, .t 49], none⟩, ⟨some 51, .load 2 true, [.t 50], none⟩, ⟨some 52, .p (.eqa true [.i, .i]), [.t 44, .t 51], none⟩]) (.cond (.t 52) (.seq (.ops false [] [⟨some 4, .p (.mov), [.c (.bool false)], none⟩]) (.ret)) (.skip)))) (.ops false [] [⟨some 36, .p (.mov), [.t 6], none⟩, ⟨some 37, .p (.binI .add), [.t 36, .c (.int .i64 1)], none⟩, ⟨some 6, .p (.mov), [.t 37], none⟩])))))))) (.ops false [] [⟨some 16, .p (.mov), [.t 5], none⟩, ⟨some 17, .p (.binI .add), [.t 16, .c (.int .i64 1)], none⟩, ⟨some 5, .p (.mov), [.t 17], none⟩])))))) (.seq (.ops false [] [⟨some 4, .p (.mov), [.c (.bool true)], none⟩]) (.ret))))
theorem c41 : FnC Try.prog 41 53 a41 [.tmp 4] := ⟨Try.call41, _, _, Try.func41, rfl, by kernel_rfl, by kernel_rfl, rfl⟩
def a68 : AC := .seq (.ops false [] [⟨some 4, .p (.mov), [.c (.int .i64 0)], none⟩]) (.seq (.seq (.ops false [] [⟨some 8, .p (.mov), [.t 0], none⟩, ⟨some 9, .p (.lenS), [.t 8], none⟩, ⟨some 10, .p (.mov), [.c (.int .i64 0)], none⟩]) (.block 0 (.loop (.seq (.ops false [] [⟨some 11, .p (.binI .lss), [.t 10, .t 9], none⟩]) (.seq (.cond (.t 11) (.skip) (.exit 0)) (.seq (.block 1 (.seq (.ops false [] [⟨some 12, .p (.iaddrS 1), [.t 8, .t 10], none⟩, ⟨some 13, .load 1 false, [.t 12], none⟩, ⟨some 6, .p (.mov), [.t 13], none⟩]) (.seq (.ops false [] [⟨some 14, .p (.mov), [.t 1], none⟩, ⟨some 15, .p (.mov), [.t 6], none⟩, ⟨some 16, .callv, [.t 14, .t 15], none⟩, ⟨some 7, .p (.mov), [.t 16], none⟩]) (.seq (.ops false [] [⟨some 17, .p (.mov), [.t 7], none⟩, ⟨some 18, .p (.binI .neq), [.t 17, .c (.int .i64 0)], none⟩]) (.cond (.t 18) (.seq (.ops false [] [⟨some 19, .p (.mov), [.t 7], none⟩, ⟨some 4, .p (.mov), [.t 19], none⟩]) (.ret)) (.skip)))))) (.ops false [] [⟨some 20, .p (.binI .add), [.t 10, .c (.int .i64 1)], none⟩, ⟨some 10, .p (.mov), [.t 20], none⟩]))))))) (.seq (.ops false [] [⟨some 4, .p (.mov), [.c (.int .i64 0)], none⟩]) (.ret)))
theorem c68 : FnC Try.prog 68 21 a68 [.tmp 4] := ⟨Try.call68, _, _, Try.func68, rfl, by kernel_rfl, by kernel_rfl, rfl⟩
def a73 : AC := .seq (.ops false [] [⟨some 6, .alloc 57 3 [.agg [.int .i64 0, .int .i64 0, .int .i64 0]], [], none⟩]) (.seq (.ops false [] [⟨some 7, .p (.mov), [.t 0], none⟩, ⟨some 8, .p (.mov), [.t 1], none⟩, ⟨some 9, .p (.build [.int .i64 0, .int .i64 0] [(0, 1), (1, 1)]), [.t 7, .t 8], none⟩, ⟨some 10, .p (.mov), [.t 2], none⟩, ⟨some 11, .p (.build [.int .i64 0, .int .i64 0, .int .i64 0] [(0, 2), (2, 1)]), [.t 9, .t 10], none⟩, ⟨none, .store 3 true, [.t 6, .t 11], none⟩]) (.ret))
theorem c73 : FnC Try.prog 73 12 a73 [.cell 6 3 true] := ⟨Try.call73, _, _, Try.func73, rfl, by kernel_rfl, by kernel_rfl, rfl⟩
namespace Wa
abbrev scC : AV := .vs [.vs [.agg [I 0, I 10, I 10]], .vs [.agg [I 2, I 9, I 8], .agg [I 50, I 50, I 5]], .vs [.agg [I 51, I 49, I 5]]]
theorem lk1 : cf_links [.vs [.agg [I 0, I 10, I 10]], .vs [.agg [I 2, I 9, I 8], .agg [I 50, I 50, I 5]], I 5] = some (.vs [I 0]) := by
  have h0 : olE [⟨0, 10, 10⟩] [⟨2, 9, 8⟩, ⟨50, 50, 5⟩] 5 = 0 := by kernel_rfl
  have h := x_links [⟨0, 10, 10⟩] [⟨2, 9, 8⟩, ⟨50, 50, 5⟩] 5 (by simp only [h0])
  have e : liV [⟨0, 10, 10⟩] [⟨2, 9, 8⟩, ⟨50, 50, 5⟩] 5 = [0] := by kernel_rfl
  rw [e] at h; exact h
theorem lk2 : cf_links [.vs [.agg [I 2, I 9, I 8], .agg [I 50, I 50, I 5]], .vs [.agg [I 51, I 49, I 5]], I 5] = some (.vs [I (-1), I 0]) := by
  have h0 : olE [⟨2, 9, 8⟩, ⟨50, 50, 5⟩] [⟨51, 49, 5⟩] 5 = 0 := by kernel_rfl
  have h := x_links [⟨2, 9, 8⟩, ⟨50, 50, 5⟩] [⟨51, 49, 5⟩] 5 (by simp only [h0])
  have e : liV [⟨2, 9, 8⟩, ⟨50, 50, 5⟩] [⟨51, 49, 5⟩] 5 = [-1, 0] := by kernel_rfl
  rw [e] at h; exact h
theorem sc1 : cf_scanErr [.vs [.agg [I 0, I 10, I 10]]] = some (I 0) := by
  have e : scE [⟨0, 10, 10⟩] = 0 := by kernel_rfl
  have h := x_scanErr [⟨0, 10, 10⟩]
  rw [e] at h; exact h
theorem sc2 : cf_scanErr [.vs [.agg [I 2, I 9, I 8], .agg [I 50, I 50, I 5]]] = some (I 0) := by
  have e : scE [⟨2, 9, 8⟩, ⟨50, 50, 5⟩] = 0 := by kernel_rfl
  have h := x_scanErr [⟨2, 9, 8⟩, ⟨50, 50, 5⟩]
  rw [e] at h; exact h
theorem sc3 : cf_scanErr [.vs [.agg [I 51, I 49, I 5]]] = some (I 0) := by
  have e : scE [⟨51, 49, 5⟩] = 0 := by kernel_rfl
  have h := x_scanErr [⟨51, 49, 5⟩]
  rw [e] at h; exact h
theorem k_eachSC : FOk P 68 [scC, .fn 69 [] []] (I 0) := by
  refine c68.fok rfl (Cor.run (addC_good g_scanErr (noC_good _)) (noHx_good _) hm ?_)
  simp +contextual -implicitDefEqProofs (maxSteps := 2000000) only [bg_eq, a68, ruB, rh_no, Int.reduceLT, Int.reduceLE, Int.reduceAdd, Int.reduceSub, Int.reduceMul, Int.reduceNeg, Int.reduceToNat, Int.reduceEq, Int.reduceNe, Int.reduceTDiv, Int.reduceTMod, implies_true, putL, appN, appX, appC, Eng.Fi, reduceCtorEq, exists_eq_left', exists_eq_left, if_true, if_false, List.replicate, Nat.reduceAdd, Nat.reduceSub, Nat.reduceMul, Nat.reduceLeDiff, Nat.reduceLT, Nat.reduceEqDiff]
  refine Cor.rounds (addC_good g_scanErr (noC_good _)) (noHx_good _) hm 4 ?_
  simp +contextual -implicitDefEqProofs (maxSteps := 2000000) only [Rd_s, sc1, sc2, sc3, Int.natCast_one, Int.natCast_zero, Int.cast_ofNat_Int, ruB, rh_no, Int.reduceLT, Int.reduceLE, Int.reduceAdd, Int.reduceSub, Int.reduceMul, Int.reduceNeg, Int.reduceToNat, Int.reduceEq, Int.reduceNe, Int.reduceTDiv, Int.reduceTMod, implies_true, putL, appN, appX, appC, Eng.Fi, reduceCtorEq, exists_eq_left', exists_eq_left, if_true, if_false, List.replicate, Nat.reduceAdd, Nat.reduceSub, Nat.reduceMul, Nat.reduceLeDiff, Nat.reduceLT, Nat.reduceEqDiff]
  done
open Classical in
noncomputable def cf_eachSC : List AV → Option AV := fun a => if a = [scC, .fn 69 [] []] then some (I 0) else none
theorem g_eachSC : Fn P 68 cf_eachSC := fun args v h => by
  unfold cf_eachSC at h
  split at h
  · rename_i e; subst e; cases h; exact k_eachSC
  · cases h
theorem k_vortex6 (a b c : Int) : FOk P 73 [I a, I b, I c] (.agg [I a, I b, I c]) := by
  refine c73.fok rfl (Cor.run (noC_good _) (noHx_good _) hm ?_)
  simp +contextual -implicitDefEqProofs (maxSteps := 2000000) only [bg_eq, a73, ruB, rh_no, Int.reduceLT, Int.reduceLE, Int.reduceAdd, Int.reduceSub, Int.reduceMul, Int.reduceNeg, Int.reduceToNat, Int.reduceEq, Int.reduceNe, Int.reduceTDiv, Int.reduceTMod, implies_true, putL, appN, appX, appC, Eng.Fi, reduceCtorEq, exists_eq_left', exists_eq_left, if_true, if_false, List.replicate, Nat.reduceAdd, Nat.reduceSub, Nat.reduceMul, Nat.reduceLeDiff, Nat.reduceLT, Nat.reduceEqDiff]
def cf_vortex6 : List AV → Option AV
  | [.int .i64 a, .int .i64 b, .int .i64 c] => some (.agg [I a, I b, I c])
  | _ => none
theorem g_vortex6 : Fn P 73 cf_vortex6 := fun args v h => by
  unfold cf_vortex6 at h; split at h
  · have h := Option.some.inj h; subst h; exact k_vortex6 _ _ _
  · cases h
theorem x_vortex6 (a b c : Int) : cf_vortex6 [.int .i64 a, .int .i64 b, .int .i64 c] = some (.agg [I a, I b, I c]) := rfl
def S_sc : AState := ⟨[.slice 0 1 0 3, .any, .any, .any, .any, .any, .any, .any, .any], [⟨0, 0, .rows 41 1 [.vs [.agg [I 0, I 10, I 10]], .vs [.agg [I 2, I 9, I 8], .agg [I 50, I 50, I 5]], .vs [.agg [I 51, I 49, I 5]]]⟩], 1⟩
theorem k_wScans : FOk P 36 [] scC := by
  refine c36.fok (y := YH P noHx) rfl ?_
  rw [bg_eq, a36]
  refine Cor.seq (Cor.run (addC_good g_vortex6 (noC_good _)) (noHx_good _) hm ?_)
  simp +contextual -implicitDefEqProofs (maxSteps := 2000000) only [x_vortex6, eThen_normal, ruB, rh_no, Int.reduceLT, Int.reduceLE, Int.reduceAdd, Int.reduceSub, Int.reduceMul, Int.reduceNeg, Int.reduceToNat, Int.reduceEq, Int.reduceNe, Int.reduceTDiv, Int.reduceTMod, implies_true, putL, appN, appX, appC, Eng.Fi, reduceCtorEq, exists_eq_left', exists_eq_left, if_true, if_false, List.replicate, Nat.reduceAdd, Nat.reduceSub, Nat.reduceMul, Nat.reduceLeDiff, Nat.reduceLT, Nat.reduceEqDiff]
  refine Cor.seq (Cor.run (addC_good g_vortex6 (noC_good _)) (noHx_good _) hm ?_)
  simp +contextual -implicitDefEqProofs (maxSteps := 2000000) only [x_vortex6, eThen_normal, ruB, rh_no, Int.reduceLT, Int.reduceLE, Int.reduceAdd, Int.reduceSub, Int.reduceMul, Int.reduceNeg, Int.reduceToNat, Int.reduceEq, Int.reduceNe, Int.reduceTDiv, Int.reduceTMod, implies_true, putL, appN, appX, appC, Eng.Fi, reduceCtorEq, exists_eq_left', exists_eq_left, if_true, if_false, List.replicate, Nat.reduceAdd, Nat.reduceSub, Nat.reduceMul, Nat.reduceLeDiff, Nat.reduceLT, Nat.reduceEqDiff]
  refine Cor.wk (s2 := S_sc) (Wkn.to ⟨0, [(3, 0)], [0, 1, 2], 1, [0]⟩ rfl rfl (by simp [Wk.st, keepT, memN, Wk.fate, Wk.fate0, assoc, getE, Wk.hp, ABlk.sub, sub1, subs, S_sc])) ?_
  refine Cor.run (noC_good _) (noHx_good _) hm ?_
  simp +contextual -implicitDefEqProofs (maxSteps := 2000000) only [S_sc, Int.natCast_one, Int.natCast_zero, Int.cast_ofNat_Int, ruB, rh_no, Int.reduceLT, Int.reduceLE, Int.reduceAdd, Int.reduceSub, Int.reduceMul, Int.reduceNeg, Int.reduceToNat, Int.reduceEq, Int.reduceNe, Int.reduceTDiv, Int.reduceTMod, implies_true, putL, appN, appX, appC, Eng.Fi, reduceCtorEq, exists_eq_left', exists_eq_left, if_true, if_false, List.replicate, Nat.reduceAdd, Nat.reduceSub, Nat.reduceMul, Nat.reduceLeDiff, Nat.reduceLT, Nat.reduceEqDiff]
theorem rp1 (H : List HEnt) (nx : Nat) : h_rp [.vs [I (-1)], I 1] H nx = some (.slice nx 1 0 1, ⟨nx, nx, .rows 3 1 [I (-1)]⟩ :: H, nx + 1) := y_rp 1 (by omega) H nx
theorem rp2 (H : List HEnt) (nx : Nat) : h_rp [.vs [I (-1)], I 2] H nx = some (.slice nx 1 0 2, ⟨nx, nx, .rows 3 1 [I (-1), I (-1)]⟩ :: H, nx + 1) := y_rp 2 (by omega) H nx
def S_tc0 : AState := ⟨[scC, I 5, .any, .any, .any, .any, .any, .nilslice, .nilslice, .any, .any, .any, .any, .any, .any, .any, .any, .any, .any, .any, .any, .any, .any, .any, .any, .any, .any, scC, I 3, I 0, .any, .any, .any, .any, .any, .any, .any, .any, .any, .any, .any, .any, .any, .any, .any, .any, .any, .any, .any, .any, .any, .any, .any, .any, .any, .any, .any, .any, .any, .any, .any, .any, .any, .any, .any, .any, .any, .any, .any, .any, .any, .any, .any, .any, .any, .any, .any, .any, .any, .any, .any, .any, .any, .any, .any, .any, .any, .any, .any, .any, .any, .any, .any, .any, .any, .any, .any, .any, .any, .any, .any, .any, .any, .any], [], 0⟩
def S_tc1 : AState := ⟨[scC, I 5, .any, .any, .any, .any, .any, .slice 0 1 0 1, .vs [I 0], .any, .any, .any, .any, .any, .any, .any, .any, .any, .any, .any, .any, .any, .any, .any, .any, .any, .any, scC, I 3, I 1, .any, .any, .any, .any, .any, .any, .any, .any, .any, .any, .any, .any, .any, .any, .any, .any, .any, .any, .any, .any, .any, .any, .any, .any, .any, .any, .any, .any, .any, .any, .any, .any, .any, .any, .any, .any, .any, .any, .any, .any, .any, .any, .any, .any, .any, .any, .any, .any, .any, .any, .any, .any, .any, .any, .any, .any, .any, .any, .any, .any, .any, .any, .any, .any, .any, .any, .any, .any, .any, .any, .any, .any, .any, .any], [⟨1, 1, .rows 97 2 [.agg [I 0, I 0]]⟩, ⟨0, 0, .rows 98 1 [.slice 1 2 0 1]⟩], 2⟩
def S_tc2 : AState := ⟨[scC, I 5, .any, .any, .any, .any, .any, .slice 0 1 0 2, .vs [I 0, I 1], .any, .any, .any, .any, .any, .any, .any, .any, .any, .any, .any, .any, .any, .any, .any, .any, .any, .any, scC, I 3, I 2, .any, .any, .any, .any, .any, .any, .any, .any, .any, .any, .any, .any, .any, .any, .any, .any, .any, .any, .any, .any, .any, .any, .any, .any, .any, .any, .any, .any, .any, .any, .any, .any, .any, .any, .any, .any, .any, .any, .any, .any, .any, .any, .any, .any, .any, .any, .any, .any, .any, .any, .any, .any, .any, .any, .any, .any, .any, .any, .any, .any, .any, .any, .any, .any, .any, .any, .any, .any, .any, .any, .any, .any, .any, .any], [⟨2, 2, .rows 97 2 [.agg [I 1, I 1]]⟩, ⟨0, 0, .rows 98 1 [.slice 1 2 0 2, .slice 2 2 0 1]⟩, ⟨1, 1, .rows 97 2 [.agg [I 0, I 0], .agg [I 1, I 0]]⟩], 3⟩
abbrev tkC : AV := .vs [.vs [.agg [I 0, I 0], .agg [I 1, I 0]], .vs [.agg [I 1, I 1], .agg [I 2, I 0]]]
def S_tc3 : AState := ⟨[.any, .any, .any, .any, .any, .any, .any, .slice 0 1 0 2, .any, .any, .any, .any, .any, .any, .any, .any, .any, .any, .any, .any, .any, .any, .any, .any, .any, .any, .any, .any, I 3, I 3, .any, .any, .any, .any, .any, .any, .any, .any, .any, .any, .any, .any, .any, .any, .any, .any, .any, .any, .any, .any, .any, .any, .any, .any, .any, .any, .any, .any, .any, .any, .any, .any, .any, .any, .any, .any, .any, .any, .any, .any, .any, .any, .any, .any, .any, .any, .any, .any, .any, .any, .any, .any, .any, .any, .any, .any, .any, .any, .any, .any, .any, .any, .any, .any, .any, .any, .any, .any, .any, .any, .any, .any, .any, .any], [⟨0, 0, .rows 98 1 [.vs [.agg [I 0, I 0], .agg [I 1, I 0]], .vs [.agg [I 1, I 1], .agg [I 2, I 0]]]⟩], 1⟩
def S_tc : Nat → AState
  | 0 => S_tc0
  | 1 => S_tc1
  | 2 => S_tc2
  | _ => S_tc3
theorem k_TracksC : FOk P 35 [scC, I 5] (.tup [tkC, I 0]) := by
  have ye : cf_eachSC [scC, .fn 69 [] []] = some (I 0) := if_pos rfl
  have o1 : (1 ≤ maxLen) = True := mx (by omega)
  have o2 : (2 ≤ maxLen) = True := mx (by omega)
  have fe0 : firstE [0, unl (miR 5) 2] = 0 := by kernel_rfl
  have fe : (firstE [0, unl (miR 5) 2] = 0) = True := eq_true fe0
  have hg := addH_good hn_rp (noHx_good P)
  refine c35.fok (y := YH P (addH 71 h_rp noHx)) rfl (Cor.run (addC_good g_links (addC_good g_first (addC_good g_missErr (addC_good g_eachSC (noC_good _))))) hg hm ?_) (fun G => YH_add (by decide) (YH_no _ G))
  simp +contextual -implicitDefEqProofs (maxSteps := 2000000) only [bg_eq, a35, ye, x_missErr, fe, not_true_eq_false, x_first, y_first, Int.natCast_one, Int.natCast_zero, Int.cast_ofNat_Int, ruH, ruB, Int.reduceLT, Int.reduceLE, Int.reduceAdd, Int.reduceSub, Int.reduceMul, Int.reduceNeg, Int.reduceToNat, Int.reduceEq, Int.reduceNe, Int.reduceTDiv, Int.reduceTMod, implies_true, putL, appN, appX, appC, Eng.Fi, reduceCtorEq, exists_eq_left', exists_eq_left, if_true, if_false, List.replicate, Nat.reduceAdd, Nat.reduceSub, Nat.reduceMul, Nat.reduceLeDiff, Nat.reduceLT, Nat.reduceEqDiff]
  refine Cor.lp (addC_good g_links (addC_good g_first (addC_good g_missErr (addC_good g_eachSC (noC_good _))))) hg hm S_tc (fun k => k ≤ 3) (fun k => 3 - k) (a := 0) (Nat.zero_le _) (Wkn.to ⟨0, [], [], 0, [0, 1, 7, 8, 27, 28, 29]⟩ rfl rfl (by simp [Wk.st, keepT, memN, Wk.fate, Wk.fate0, assoc, getE, Wk.hp, ABlk.sub, sub1, subs, S_tc, S_tc0])) ?_
  intro f k hk go
  have hk : k = 0 ∨ k = 1 ∨ k = 2 ∨ k = 3 := by omega
  rcases hk with rfl | rfl | rfl | rfl
  · simp +contextual -implicitDefEqProofs (maxSteps := 2000000) only [S_tc, S_tc0, rp1, Int.natCast_one, Int.natCast_zero, Int.cast_ofNat_Int, ruH, ruB, Int.reduceLT, Int.reduceLE, Int.reduceAdd, Int.reduceSub, Int.reduceMul, Int.reduceNeg, Int.reduceToNat, Int.reduceEq, Int.reduceNe, Int.reduceTDiv, Int.reduceTMod, implies_true, putL, appN, appX, appC, Eng.Fi, reduceCtorEq, exists_eq_left', exists_eq_left, if_true, if_false, List.replicate, Nat.reduceAdd, Nat.reduceSub, Nat.reduceMul, Nat.reduceLeDiff, Nat.reduceLT, Nat.reduceEqDiff]
    refine Cor.rounds (addC_good g_links (addC_good g_first (addC_good g_missErr (addC_good g_eachSC (noC_good _))))) hg hm 2 ?_
    simp +contextual -implicitDefEqProofs (maxSteps := 2000000) only [Rd_s, o1, o2, rs_nil, rs_t, rs_f, ag_nils, ag_sl, ag_vs, ag_str, ag_ptr, ag_nilp, ag_vp, ag_fun, Int.natCast_one, Int.natCast_zero, Int.cast_ofNat_Int, ruH, ruB, Int.reduceLT, Int.reduceLE, Int.reduceAdd, Int.reduceSub, Int.reduceMul, Int.reduceNeg, Int.reduceToNat, Int.reduceEq, Int.reduceNe, Int.reduceTDiv, Int.reduceTMod, implies_true, putL, appN, appX, appC, Eng.Fi, reduceCtorEq, exists_eq_left', exists_eq_left, if_true, if_false, List.replicate, Nat.reduceAdd, Nat.reduceSub, Nat.reduceMul, Nat.reduceLeDiff, Nat.reduceLT, Nat.reduceEqDiff]
    exact go _ 1 (by omega) (by omega) (Wkn.to ⟨0, [(2, 0), (3, 1)], [0], 2, [0, 1, 7, 8, 27, 28, 29]⟩ rfl rfl (by simp [Wk.st, keepT, memN, Wk.fate, Wk.fate0, assoc, getE, Wk.hp, ABlk.sub, sub1, subs, S_tc, S_tc1]))
  · simp +contextual -implicitDefEqProofs (maxSteps := 2000000) only [S_tc, S_tc1, rp2, lk1, Int.natCast_one, Int.natCast_zero, Int.cast_ofNat_Int, ruH, ruB, Int.reduceLT, Int.reduceLE, Int.reduceAdd, Int.reduceSub, Int.reduceMul, Int.reduceNeg, Int.reduceToNat, Int.reduceEq, Int.reduceNe, Int.reduceTDiv, Int.reduceTMod, implies_true, putL, appN, appX, appC, Eng.Fi, reduceCtorEq, exists_eq_left', exists_eq_left, if_true, if_false, List.replicate, Nat.reduceAdd, Nat.reduceSub, Nat.reduceMul, Nat.reduceLeDiff, Nat.reduceLT, Nat.reduceEqDiff]
    refine Cor.rounds (addC_good g_links (addC_good g_first (addC_good g_missErr (addC_good g_eachSC (noC_good _))))) hg hm 2 ?_
    simp +contextual -implicitDefEqProofs (maxSteps := 2000000) only [Rd_s, o1, o2, Int.natCast_one, Int.natCast_zero, Int.cast_ofNat_Int, ruH, ruB, Int.reduceLT, Int.reduceLE, Int.reduceAdd, Int.reduceSub, Int.reduceMul, Int.reduceNeg, Int.reduceToNat, Int.reduceEq, Int.reduceNe, Int.reduceTDiv, Int.reduceTMod, implies_true, putL, appN, appX, appC, Eng.Fi, reduceCtorEq, exists_eq_left', exists_eq_left, if_true, if_false, List.replicate, Nat.reduceAdd, Nat.reduceSub, Nat.reduceMul, Nat.reduceLeDiff, Nat.reduceLT, Nat.reduceEqDiff]
    refine Cor.rounds (addC_good g_links (addC_good g_first (addC_good g_missErr (addC_good g_eachSC (noC_good _))))) hg hm 3 ?_
    simp +contextual -implicitDefEqProofs (maxSteps := 2000000) only [Rd_s, o1, o2, rs_nil, rs_t, rs_f, ag_nils, ag_sl, ag_vs, ag_str, ag_ptr, ag_nilp, ag_vp, ag_fun, Int.natCast_one, Int.natCast_zero, Int.cast_ofNat_Int, ruH, ruB, Int.reduceLT, Int.reduceLE, Int.reduceAdd, Int.reduceSub, Int.reduceMul, Int.reduceNeg, Int.reduceToNat, Int.reduceEq, Int.reduceNe, Int.reduceTDiv, Int.reduceTMod, implies_true, putL, appN, appX, appC, Eng.Fi, reduceCtorEq, exists_eq_left', exists_eq_left, if_true, if_false, List.replicate, Nat.reduceAdd, Nat.reduceSub, Nat.reduceMul, Nat.reduceLeDiff, Nat.reduceLT, Nat.reduceEqDiff]
    exact go _ 2 (by omega) (by omega) (Wkn.to ⟨0, [(8, 2), (7, 0), (4, 1)], [2], 3, [0, 1, 7, 8, 27, 28, 29]⟩ rfl rfl (by simp [Wk.st, keepT, memN, Wk.fate, Wk.fate0, assoc, getE, Wk.hp, ABlk.sub, sub1, subs, S_tc, S_tc2]))
  · simp +contextual -implicitDefEqProofs (maxSteps := 2000000) only [S_tc, S_tc2, rp1, lk2, Int.natCast_one, Int.natCast_zero, Int.cast_ofNat_Int, ruH, ruB, Int.reduceLT, Int.reduceLE, Int.reduceAdd, Int.reduceSub, Int.reduceMul, Int.reduceNeg, Int.reduceToNat, Int.reduceEq, Int.reduceNe, Int.reduceTDiv, Int.reduceTMod, implies_true, putL, appN, appX, appC, Eng.Fi, reduceCtorEq, exists_eq_left', exists_eq_left, if_true, if_false, List.replicate, Nat.reduceAdd, Nat.reduceSub, Nat.reduceMul, Nat.reduceLeDiff, Nat.reduceLT, Nat.reduceEqDiff]
    refine Cor.rounds (addC_good g_links (addC_good g_first (addC_good g_missErr (addC_good g_eachSC (noC_good _))))) hg hm 3 ?_
    simp +contextual -implicitDefEqProofs (maxSteps := 2000000) only [Rd_s, o1, o2, Int.natCast_one, Int.natCast_zero, Int.cast_ofNat_Int, ruH, ruB, Int.reduceLT, Int.reduceLE, Int.reduceAdd, Int.reduceSub, Int.reduceMul, Int.reduceNeg, Int.reduceToNat, Int.reduceEq, Int.reduceNe, Int.reduceTDiv, Int.reduceTMod, implies_true, putL, appN, appX, appC, Eng.Fi, reduceCtorEq, exists_eq_left', exists_eq_left, if_true, if_false, List.replicate, Nat.reduceAdd, Nat.reduceSub, Nat.reduceMul, Nat.reduceLeDiff, Nat.reduceLT, Nat.reduceEqDiff]
    refine Cor.rounds (addC_good g_links (addC_good g_first (addC_good g_missErr (addC_good g_eachSC (noC_good _))))) hg hm 2 ?_
    simp +contextual -implicitDefEqProofs (maxSteps := 2000000) only [Rd_s, o1, o2, rs_nil, rs_t, rs_f, ag_nils, ag_sl, ag_vs, ag_str, ag_ptr, ag_nilp, ag_vp, ag_fun, Int.natCast_one, Int.natCast_zero, Int.cast_ofNat_Int, ruH, ruB, Int.reduceLT, Int.reduceLE, Int.reduceAdd, Int.reduceSub, Int.reduceMul, Int.reduceNeg, Int.reduceToNat, Int.reduceEq, Int.reduceNe, Int.reduceTDiv, Int.reduceTMod, implies_true, putL, appN, appX, appC, Eng.Fi, reduceCtorEq, exists_eq_left', exists_eq_left, if_true, if_false, List.replicate, Nat.reduceAdd, Nat.reduceSub, Nat.reduceMul, Nat.reduceLeDiff, Nat.reduceLT, Nat.reduceEqDiff]
    exact go _ 3 (by omega) (by omega) (Wkn.to ⟨0, [(0, 0)], [5, 1], 1, [7, 28, 29]⟩ rfl rfl (by simp [Wk.st, keepT, memN, Wk.fate, Wk.fate0, assoc, getE, Wk.hp, ABlk.sub, sub1, subs, S_tc, S_tc3]))
  · simp +contextual -implicitDefEqProofs (maxSteps := 2000000) only [S_tc, S_tc3, Int.natCast_one, Int.natCast_zero, Int.cast_ofNat_Int, ruH, ruB, Int.reduceLT, Int.reduceLE, Int.reduceAdd, Int.reduceSub, Int.reduceMul, Int.reduceNeg, Int.reduceToNat, Int.reduceEq, Int.reduceNe, Int.reduceTDiv, Int.reduceTMod, implies_true, putL, appN, appX, appC, Eng.Fi, reduceCtorEq, exists_eq_left', exists_eq_left, if_true, if_false, List.replicate, Nat.reduceAdd, Nat.reduceSub, Nat.reduceMul, Nat.reduceLeDiff, Nat.reduceLT, Nat.reduceEqDiff]
end Wa
open Go Go.Proofs Eng
set_option maxRecDepth 100000
set_option linter.unusedSimpArgs false
set_option linter.unusedVariables false
namespace Wa
abbrev srC : AV := .agg [I 0, I 1, I 10, I 10, I 3, .vs [I 5, I 10], I 0, I 0, I 1, .vs [.agg [I 3, I 14, I 20]]]
def S_se : AState := ⟨[.ptr 0 10 0 0, .any, .any, .any, .any, .any, .any, .any, .any], [⟨0, 0, .rows 84 10 [srC]⟩], 1⟩
theorem k_wSearch : FOk P 34 [] srC := by
  refine c34.fok (y := YH P noHx) rfl ?_
  rw [bg_eq, a34]
  refine Cor.seq (Cor.run (addC_good g_wSetup (noC_good _)) (noHx_good _) hm ?_)
  simp +contextual -implicitDefEqProofs (maxSteps := 2000000) only [x_wSetup, eThen_normal, ruH, ruB, Int.reduceLT, Int.reduceLE, Int.reduceAdd, Int.reduceSub, Int.reduceMul, Int.reduceNeg, Int.reduceToNat, Int.reduceEq, Int.reduceNe, Int.reduceTDiv, Int.reduceTMod, implies_true, putL, appN, appX, appC, Eng.Fi, reduceCtorEq, exists_eq_left', exists_eq_left, if_true, if_false, List.replicate, Nat.reduceAdd, Nat.reduceSub, Nat.reduceMul, Nat.reduceLeDiff, Nat.reduceLT, Nat.reduceEqDiff]
  refine Cor.seq (Cor.run (addC_good g_wSetup (noC_good _)) (noHx_good _) hm ?_)
  simp +contextual -implicitDefEqProofs (maxSteps := 2000000) only [x_wSetup, eThen_normal, Int.natCast_one, Int.natCast_zero, Int.cast_ofNat_Int, ruH, ruB, Int.reduceLT, Int.reduceLE, Int.reduceAdd, Int.reduceSub, Int.reduceMul, Int.reduceNeg, Int.reduceToNat, Int.reduceEq, Int.reduceNe, Int.reduceTDiv, Int.reduceTMod, implies_true, putL, appN, appX, appC, Eng.Fi, reduceCtorEq, exists_eq_left', exists_eq_left, if_true, if_false, List.replicate, Nat.reduceAdd, Nat.reduceSub, Nat.reduceMul, Nat.reduceLeDiff, Nat.reduceLT, Nat.reduceEqDiff]
  refine Cor.wk (s2 := S_se) (Wkn.to ⟨0, [(0, 0)], [1, 2], 1, [0]⟩ rfl rfl (by simp [Wk.st, keepT, memN, Wk.fate, Wk.fate0, assoc, getE, Wk.hp, ABlk.sub, sub1, subs, S_se])) ?_
  refine Cor.run (noC_good _) (noHx_good _) hm ?_
  simp +contextual -implicitDefEqProofs (maxSteps := 2000000) only [S_se, Int.natCast_one, Int.natCast_zero, Int.cast_ofNat_Int, ruH, ruB, Int.reduceLT, Int.reduceLE, Int.reduceAdd, Int.reduceSub, Int.reduceMul, Int.reduceNeg, Int.reduceToNat, Int.reduceEq, Int.reduceNe, Int.reduceTDiv, Int.reduceTMod, implies_true, putL, appN, appX, appC, Eng.Fi, reduceCtorEq, exists_eq_left', exists_eq_left, if_true, if_false, List.replicate, Nat.reduceAdd, Nat.reduceSub, Nat.reduceMul, Nat.reduceLeDiff, Nat.reduceLT, Nat.reduceEqDiff]
theorem v_bi : biV ⟨0, 1, 10, 10, 3, [5, 10], ⟨0, 0, 1⟩, [⟨3, 14, 20⟩]⟩ = .tup [.agg [I 0, I 10, I 3, I 10], I 0, I 0] := by kernel_rfl
theorem v_co : coV [[1, 2], [2, 4]] = .tup [.vs [I 1, I 0], I 4, I 0] := by kernel_rfl
theorem v_ba : baV ⟨0, 2, 10, 12, 8, 10⟩ ⟨-1, 1, 1, 2, 0, 1⟩ 3 = .tup [.agg [I (-3), I 5, I 4, I 9, I 5, I 10], I 0] := by kernel_rfl
theorem v_ra6 : raV ⟨0, 10, 3, 10⟩ ⟨0, 0, 1⟩ ⟨3, 14⟩ = .tup [I 20, I 0] := by kernel_rfl
theorem v_er6 : eRV ⟨0, 2, 10, 12, 8, 10⟩ ⟨-1, 1, 1, 2, 0, 1⟩ ⟨-100, 100, 5, 50, 1, 0, 20⟩ = .tup [I 8, I 0] := by kernel_rfl
theorem k_sameC : FOk P 41 [tkC, tkC] (.bool true) := by
  refine c41.fok rfl (Cor.run (noC_good _) (noHx_good _) hm ?_)
  simp +contextual -implicitDefEqProofs (maxSteps := 2000000) only [bg_eq, a41, Int.natCast_one, Int.natCast_zero, Int.cast_ofNat_Int, ruH, ruB, Int.reduceLT, Int.reduceLE, Int.reduceAdd, Int.reduceSub, Int.reduceMul, Int.reduceNeg, Int.reduceToNat, Int.reduceEq, Int.reduceNe, Int.reduceTDiv, Int.reduceTMod, implies_true, putL, appN, appX, appC, Eng.Fi, reduceCtorEq, exists_eq_left', exists_eq_left, if_true, if_false, List.replicate, Nat.reduceAdd, Nat.reduceSub, Nat.reduceMul, Nat.reduceLeDiff, Nat.reduceLT, Nat.reduceEqDiff]
  refine Cor.rounds (noC_good _) (noHx_good _) hm 3 ?_
  simp +contextual -implicitDefEqProofs (maxSteps := 2000000) only [Rd_s, Int.natCast_one, Int.natCast_zero, Int.cast_ofNat_Int, ruH, ruB, Int.reduceLT, Int.reduceLE, Int.reduceAdd, Int.reduceSub, Int.reduceMul, Int.reduceNeg, Int.reduceToNat, Int.reduceEq, Int.reduceNe, Int.reduceTDiv, Int.reduceTMod, implies_true, putL, appN, appX, appC, Eng.Fi, reduceCtorEq, exists_eq_left', exists_eq_left, if_true, if_false, List.replicate, Nat.reduceAdd, Nat.reduceSub, Nat.reduceMul, Nat.reduceLeDiff, Nat.reduceLT, Nat.reduceEqDiff]
  refine Cor.rounds (noC_good _) (noHx_good _) hm 3 ?_
  simp +contextual -implicitDefEqProofs (maxSteps := 2000000) only [Rd_s, Int.natCast_one, Int.natCast_zero, Int.cast_ofNat_Int, ruH, ruB, Int.reduceLT, Int.reduceLE, Int.reduceAdd, Int.reduceSub, Int.reduceMul, Int.reduceNeg, Int.reduceToNat, Int.reduceEq, Int.reduceNe, Int.reduceTDiv, Int.reduceTMod, implies_true, putL, appN, appX, appC, Eng.Fi, reduceCtorEq, exists_eq_left', exists_eq_left, if_true, if_false, List.replicate, Nat.reduceAdd, Nat.reduceSub, Nat.reduceMul, Nat.reduceLeDiff, Nat.reduceLT, Nat.reduceEqDiff]
  refine Cor.rounds (noC_good _) (noHx_good _) hm 3 ?_
  simp +contextual -implicitDefEqProofs (maxSteps := 2000000) only [Rd_s, Int.natCast_one, Int.natCast_zero, Int.cast_ofNat_Int, ruH, ruB, Int.reduceLT, Int.reduceLE, Int.reduceAdd, Int.reduceSub, Int.reduceMul, Int.reduceNeg, Int.reduceToNat, Int.reduceEq, Int.reduceNe, Int.reduceTDiv, Int.reduceTMod, implies_true, putL, appN, appX, appC, Eng.Fi, reduceCtorEq, exists_eq_left', exists_eq_left, if_true, if_false, List.replicate, Nat.reduceAdd, Nat.reduceSub, Nat.reduceMul, Nat.reduceLeDiff, Nat.reduceLT, Nat.reduceEqDiff]
end Wa
open Go Go.Proofs Eng
set_option maxRecDepth 100000
set_option linter.unusedSimpArgs false
set_option linter.unusedVariables false
namespace Wa
open Classical in
noncomputable def cf_TracksC : List AV → Option AV := fun a => if a = [scC, I 5] then some (.tup [tkC, I 0]) else none
theorem g_TracksC : Fn P 35 cf_TracksC := fun args v h => by
  unfold cf_TracksC at h
  split at h
  · rename_i e; subst e; cases h; exact k_TracksC
  · cases h
open Classical in
noncomputable def cf_sameC : List AV → Option AV := fun a => if a = [tkC, tkC] then some (.bool true) else none
theorem g_sameC : Fn P 41 cf_sameC := fun args v h => by
  unfold cf_sameC at h
  split at h
  · rename_i e; subst e; cases h; exact k_sameC
  · cases h
def cf_wSearch : List AV → Option AV
  | [] => some (srC)
  | _ => none
theorem g_wSearch : Fn P 34 cf_wSearch := fun args v h => by
  unfold cf_wSearch at h; split at h
  · have h := Option.some.inj h; subst h; exact k_wSearch 
  · cases h
theorem x_wSearch : cf_wSearch [] = some (srC) := rfl
def cf_wScans : List AV → Option AV
  | [] => some (scC)
  | _ => none
theorem g_wScans : Fn P 36 cf_wScans := fun args v h => by
  unfold cf_wScans at h; split at h
  · have h := Option.some.inj h; subst h; exact k_wScans 
  · cases h
theorem x_wScans : cf_wScans [] = some (scC) := rfl
set_option maxHeartbeats 1000000 in
theorem k_awake : FOk P 6 [] (.bool true) := by
  have y1 : cf_RadialAt [.agg [I 0, I 10, I 3, I 10], .agg [I 0, I 0, I 1], .agg [I 3, I 14]] = some (.tup [I 20, I 0]) := (x_RadialAt ⟨0, 10, 3, 10⟩ ⟨0, 0, 1⟩ ⟨3, 14⟩).trans (by rw [v_ra6])
  have y2 : cf_EarliestFree [.agg [I 0, I 2, I 10, I 12, I 8, I 10], .agg [I (-1), I 1, I 1, I 2, I 0, I 1], .agg [I (-100), I 100, I 5, I 50, I 1, I 0, I 20]] = some (.tup [I 8, I 0]) := (x_EarliestFree ⟨0, 2, 10, 12, 8, 10⟩ ⟨-1, 1, 1, 2, 0, 1⟩ ⟨-100, 100, 5, 50, 1, 0, 20⟩).trans (by rw [v_er6])
  have y3 : cf_BestIn [srC] = some (.tup [.agg [I 0, I 10, I 3, I 10], I 0, I 0]) := (x_BestIn ⟨0, 1, 10, 10, 3, [5, 10], ⟨0, 0, 1⟩, [⟨3, 14, 20⟩]⟩).trans (by rw [v_bi])
  have y4 : cf_CheapestOf [.vs [.vs [I 1, I 2], .vs [I 2, I 4]]] = some (.tup [.vs [I 1, I 0], I 4, I 0]) := (x_CheapestOf [[1, 2], [2, 4]] (by simp)).trans (by rw [v_co])
  have y5 : cf_BoxAfter [.agg [I 0, I 2, I 10, I 12, I 8, I 10], .agg [I (-1), I 1, I 1, I 2, I 0, I 1], I 3] = some (.tup [.agg [I (-3), I 5, I 4, I 9, I 5, I 10], I 0]) := (x_BoxAfter ⟨0, 2, 10, 12, 8, 10⟩ ⟨-1, 1, 1, 2, 0, 1⟩ 3).trans (by rw [v_ba])
  have y6 : cf_Ints [.vs [I 1, I 0], .vs [I 1, I 0]] = some (.bool true) := (x_Ints [1, 0] [1, 0] (by simp)).trans (by simp)
  have y7 : cf_TracksC [scC, I 5] = some (.tup [tkC, I 0]) := if_pos rfl
  have y8 : cf_sameC [tkC, tkC] = some (.bool true) := if_pos rfl
  refine c6.fok (y := YH P noHx) rfl ?_
  rw [bg_eq, a6]
  refine Cor.seq (Cor.run (addC_good g_RadialAt (addC_good g_wSetup (addC_good g_wPair (noC_good _)))) (noHx_good _) hm ?_)
  simp +contextual -implicitDefEqProofs (maxSteps := 2000000) only [eThen_normal, ruH, ruB, Int.reduceLT, Int.reduceLE, Int.reduceAdd, Int.reduceSub, Int.reduceMul, Int.reduceNeg, Int.reduceToNat, Int.reduceEq, Int.reduceNe, Int.reduceTDiv, Int.reduceTMod, implies_true, putL, appN, appX, appC, Eng.Fi, reduceCtorEq, exists_eq_left', exists_eq_left, if_true, if_false, List.replicate, Nat.reduceAdd, Nat.reduceSub, Nat.reduceMul, Nat.reduceLeDiff, Nat.reduceLT, Nat.reduceEqDiff]
  refine Cor.seq (Cor.run (addC_good g_RadialAt (addC_good g_wSetup (addC_good g_wPair (noC_good _)))) (noHx_good _) hm ?_)
  simp +contextual -implicitDefEqProofs (maxSteps := 2000000) only [x_wPair, x_wSetup, y1, eThen_normal, ruH, ruB, Int.reduceLT, Int.reduceLE, Int.reduceAdd, Int.reduceSub, Int.reduceMul, Int.reduceNeg, Int.reduceToNat, Int.reduceEq, Int.reduceNe, Int.reduceTDiv, Int.reduceTMod, implies_true, putL, appN, appX, appC, Eng.Fi, reduceCtorEq, exists_eq_left', exists_eq_left, if_true, if_false, List.replicate, Nat.reduceAdd, Nat.reduceSub, Nat.reduceMul, Nat.reduceLeDiff, Nat.reduceLT, Nat.reduceEqDiff]
  refine Cor.seq (Cor.run (addC_good g_BestIn (addC_good g_wSearch (noC_good _))) (noHx_good _) hm ?_)
  simp +contextual -implicitDefEqProofs (maxSteps := 2000000) only [x_wSearch, y3, eThen_normal, ruH, ruB, Int.reduceLT, Int.reduceLE, Int.reduceAdd, Int.reduceSub, Int.reduceMul, Int.reduceNeg, Int.reduceToNat, Int.reduceEq, Int.reduceNe, Int.reduceTDiv, Int.reduceTMod, implies_true, putL, appN, appX, appC, Eng.Fi, reduceCtorEq, exists_eq_left', exists_eq_left, if_true, if_false, List.replicate, Nat.reduceAdd, Nat.reduceSub, Nat.reduceMul, Nat.reduceLeDiff, Nat.reduceLT, Nat.reduceEqDiff]
  refine Cor.seq (Cor.run (addC_good g_CheapestOf (noC_good _)) (noHx_good _) hm ?_)
  simp +contextual -implicitDefEqProofs (maxSteps := 2000000) only [y4, eThen_normal, ruH, ruB, Int.reduceLT, Int.reduceLE, Int.reduceAdd, Int.reduceSub, Int.reduceMul, Int.reduceNeg, Int.reduceToNat, Int.reduceEq, Int.reduceNe, Int.reduceTDiv, Int.reduceTMod, implies_true, putL, appN, appX, appC, Eng.Fi, reduceCtorEq, exists_eq_left', exists_eq_left, if_true, if_false, List.replicate, Nat.reduceAdd, Nat.reduceSub, Nat.reduceMul, Nat.reduceLeDiff, Nat.reduceLT, Nat.reduceEqDiff]
  refine Cor.seq (Cor.run (addC_good g_TracksC (addC_good g_wScans (noC_good _))) (noHx_good _) hm ?_)
  simp +contextual -implicitDefEqProofs (maxSteps := 2000000) only [x_wScans, y7, eThen_normal, ruH, ruB, Int.reduceLT, Int.reduceLE, Int.reduceAdd, Int.reduceSub, Int.reduceMul, Int.reduceNeg, Int.reduceToNat, Int.reduceEq, Int.reduceNe, Int.reduceTDiv, Int.reduceTMod, implies_true, putL, appN, appX, appC, Eng.Fi, reduceCtorEq, exists_eq_left', exists_eq_left, if_true, if_false, List.replicate, Nat.reduceAdd, Nat.reduceSub, Nat.reduceMul, Nat.reduceLeDiff, Nat.reduceLT, Nat.reduceEqDiff]
  refine Cor.seq (Cor.run (addC_good g_BoxAfter (addC_good g_wDrift (addC_good g_wBox (noC_good _)))) (noHx_good _) hm ?_)
  simp +contextual -implicitDefEqProofs (maxSteps := 2000000) only [x_wBox, x_wDrift, y5, eThen_normal, ruH, ruB, Int.reduceLT, Int.reduceLE, Int.reduceAdd, Int.reduceSub, Int.reduceMul, Int.reduceNeg, Int.reduceToNat, Int.reduceEq, Int.reduceNe, Int.reduceTDiv, Int.reduceTMod, implies_true, putL, appN, appX, appC, Eng.Fi, reduceCtorEq, exists_eq_left', exists_eq_left, if_true, if_false, List.replicate, Nat.reduceAdd, Nat.reduceSub, Nat.reduceMul, Nat.reduceLeDiff, Nat.reduceLT, Nat.reduceEqDiff]
  refine Cor.seq (Cor.run (addC_good g_EarliestFree (addC_good g_wCorridor (addC_good g_wDrift (addC_good g_wBox (noC_good _))))) (noHx_good _) hm ?_)
  simp +contextual -implicitDefEqProofs (maxSteps := 2000000) only [x_wBox, x_wDrift, x_wCorridor, y2, eThen_normal, ruH, ruB, Int.reduceLT, Int.reduceLE, Int.reduceAdd, Int.reduceSub, Int.reduceMul, Int.reduceNeg, Int.reduceToNat, Int.reduceEq, Int.reduceNe, Int.reduceTDiv, Int.reduceTMod, implies_true, putL, appN, appX, appC, Eng.Fi, reduceCtorEq, exists_eq_left', exists_eq_left, if_true, if_false, List.replicate, Nat.reduceAdd, Nat.reduceSub, Nat.reduceMul, Nat.reduceLeDiff, Nat.reduceLT, Nat.reduceEqDiff]
  refine Cor.run (addC_good g_sameC (addC_good g_Ints (addC_good g_wPair (noC_good _)))) (noHx_good _) hm ?_
  simp +contextual -implicitDefEqProofs (maxSteps := 2000000) only [x_wPair, y6, y8, ruH, ruB, Int.reduceLT, Int.reduceLE, Int.reduceAdd, Int.reduceSub, Int.reduceMul, Int.reduceNeg, Int.reduceToNat, Int.reduceEq, Int.reduceNe, Int.reduceTDiv, Int.reduceTMod, implies_true, putL, appN, appX, appC, Eng.Fi, reduceCtorEq, exists_eq_left', exists_eq_left, if_true, if_false, List.replicate, Nat.reduceAdd, Nat.reduceSub, Nat.reduceMul, Nat.reduceLeDiff, Nat.reduceLT, Nat.reduceEqDiff]
def cf_awake : List AV → Option AV
  | [] => some (.bool true)
  | _ => none
theorem g_awake : Fn P 6 cf_awake := fun args v h => by
  unfold cf_awake at h; split at h
  · have h := Option.some.inj h; subst h; exact k_awake 
  · cases h
theorem x_awake : cf_awake [] = some (.bool true) := rfl
end Wa
open Go Go.Proofs Eng
set_option maxRecDepth 100000
set_option linter.unusedSimpArgs false
set_option linter.unusedVariables false
namespace Wa
end Wa
open Go Go.Proofs Eng
set_option maxRecDepth 100000
set_option linter.unusedSimpArgs false
set_option linter.unusedVariables false
namespace Wa
theorem arDrift {n : Nat} {u : AV} (h : ArG P n 45 u) : ∃ b : Bx, u = eBx b := by
  obtain ⟨us, rfl, hh⟩ := h.agg 6 (ks := [.i, .i, .i, .i, .i, .i]) (by kernel_rfl) (by kernel_rfl)
  simp only [ShV, ShV1] at hh
  obtain ⟨_, _, rfl, ⟨a, rfl, _⟩, _, _, rfl, ⟨b', rfl, _⟩, _, _, rfl, ⟨c, rfl, _⟩, _, _, rfl, ⟨d, rfl, _⟩, _, _, rfl, ⟨e, rfl, _⟩, _, _, rfl, ⟨f, rfl, _⟩, rfl⟩ := hh
  exact ⟨⟨a, b', c, d, e, f⟩, rfl⟩
theorem fE1 {e : Int} {l : List Int} (h : ¬ e = 0) : firstE (e :: l) = e := by
  unfold firstE; rw [if_neg h]
theorem fE0 {l : List Int} : firstE (0 :: l) = firstE l := rfl
end Wa
open Go Go.Proofs Eng
set_option maxRecDepth 100000
set_option linter.unusedSimpArgs false
set_option linter.unusedVariables false
namespace Wa
def feE (b d : Bx) (c : Co) : Int := if mvE b d = 0 then coE c else mvE b d
theorem firstE_one (e : Int) : firstE [e] = e := by
  by_cases h : e = 0
  · rw [h]; rfl
  · exact fE1 h
theorem mvE_first (b d : Bx) : mvE b d = firstE [bxE b, dfE d] := by
  unfold mvE
  split
  · rename_i h; rw [h, fE0, firstE_one]
  · rename_i h; rw [fE1 h]
theorem k_rFreeErr (b d : Bx) (c : Co) : FOk P 13 [eBx b, eBx d, eCo c] (I (feE b d c)) := by
  have y1 := x_rMovesErr b d
  have y2 := x_rCorridorErr c
  by_cases h : mvE b d = 0
  · have h' := eq_true h
    rw [feE, if_pos h]
    refine c13.fok rfl (Cor.run (addC_good g_rCorridorErr (addC_good g_rMovesErr (noC_good _))) (noHx_good _) hm ?_)
    simp +contextual -implicitDefEqProofs (maxSteps := 2000000) only [bg_eq, a13, y1, y2, h', not_true_eq_false, ruB, rh_no, Int.reduceLT, Int.reduceLE, Int.reduceAdd, Int.reduceSub, Int.reduceMul, Int.reduceNeg, Int.reduceToNat, Int.reduceEq, Int.reduceNe, Int.reduceTDiv, Int.reduceTMod, implies_true, putL, appN, appX, appC, Eng.Fi, reduceCtorEq, exists_eq_left', exists_eq_left, if_true, if_false, List.replicate, Nat.reduceAdd, Nat.reduceSub, Nat.reduceMul, Nat.reduceLeDiff, Nat.reduceLT, Nat.reduceEqDiff]
  · have h' := eq_false h
    rw [feE, if_neg h]
    refine c13.fok rfl (Cor.run (addC_good g_rCorridorErr (addC_good g_rMovesErr (noC_good _))) (noHx_good _) hm ?_)
    simp +contextual -implicitDefEqProofs (maxSteps := 2000000) only [bg_eq, a13, y1, y2, h', not_false_eq_true, ruB, rh_no, Int.reduceLT, Int.reduceLE, Int.reduceAdd, Int.reduceSub, Int.reduceMul, Int.reduceNeg, Int.reduceToNat, Int.reduceEq, Int.reduceNe, Int.reduceTDiv, Int.reduceTMod, implies_true, putL, appN, appX, appC, Eng.Fi, reduceCtorEq, exists_eq_left', exists_eq_left, if_true, if_false, List.replicate, Nat.reduceAdd, Nat.reduceSub, Nat.reduceMul, Nat.reduceLeDiff, Nat.reduceLT, Nat.reduceEqDiff]
def cf_rFreeErr : List AV → Option AV
  | [.agg [.int .i64 b_yl, .int .i64 b_yh, .int .i64 b_zl, .int .i64 b_zh, .int .i64 b_sl, .int .i64 b_sh], .agg [.int .i64 d_yl, .int .i64 d_yh, .int .i64 d_zl, .int .i64 d_zh, .int .i64 d_sl, .int .i64 d_sh], .agg [.int .i64 c_yl, .int .i64 c_yh, .int .i64 c_zl, .int .i64 c_zh, .int .i64 c_lim, .int .i64 c_fr, .int .i64 c_to]] => some (I (feE (⟨b_yl, b_yh, b_zl, b_zh, b_sl, b_sh⟩ : Bx) (⟨d_yl, d_yh, d_zl, d_zh, d_sl, d_sh⟩ : Bx) (⟨c_yl, c_yh, c_zl, c_zh, c_lim, c_fr, c_to⟩ : Co)))
  | _ => none
theorem g_rFreeErr : Fn P 13 cf_rFreeErr := fun args v hh => by
  unfold cf_rFreeErr at hh; split at hh
  · have hk := Option.some.inj hh; subst hk; exact k_rFreeErr ⟨_, _, _, _, _, _⟩ ⟨_, _, _, _, _, _⟩ ⟨_, _, _, _, _, _, _⟩
  · cases hh
theorem x_rFreeErr (b : Bx) (d : Bx) (c : Co) : cf_rFreeErr [.agg [I b.yl, I b.yh, I b.zl, I b.zh, I b.sl, I b.sh], .agg [I d.yl, I d.yh, I d.zl, I d.zh, I d.sl, I d.sh], .agg [I c.yl, I c.yh, I c.zl, I c.zh, I c.lim, I c.fr, I c.to]] = some (I (feE b d c)) := by
  rfl
end Wa
