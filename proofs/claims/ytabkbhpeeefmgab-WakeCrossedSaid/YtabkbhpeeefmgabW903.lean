import Derived.Test.YtabkbhpeeefmgabEngS9
import Derived.Test.YtabkbhpeeefmgabW902
open Go Go.Proofs Eng
set_option maxRecDepth 100000
set_option linter.unusedSimpArgs false
set_option linter.unusedVariables false
def a17 : AC := .seq (.ops false [] [⟨some 2, .p (.mov), [.c (.nilslice)], none⟩]) (.seq (.ops false [] [⟨some 3, .bsl 57 3, [], none⟩, ⟨some 4, .p (.mov), [.t 0], none⟩, ⟨some 5, .app 57 3 24, [.t 3, .t 4], none⟩, ⟨some 2, .p (.mov), [.t 5], none⟩]) (.ret))
theorem c17 : FnC Try.prog 17 6 a17 [.tmp 2] := ⟨Try.call17, _, _, Try.func17, rfl, by kernel_rfl, by kernel_rfl, rfl⟩
def a19 : AC := .seq (.ops false [] [⟨some 1, .box 47 7 1 true, [.t 0], none⟩, ⟨some 2, .alloc 40 6 [.agg [.int .i64 0, .int .i64 0, .int .i64 0, .int .i64 0, .int .i64 0, .int .i64 0]], [], none⟩]) (.seq (.ops false [] [⟨some 3, .p (.faddr 0), [.t 1], none⟩, ⟨some 4, .load 2 true, [.t 3], none⟩, ⟨some 5, .p (.faddr 2), [.t 1], none⟩, ⟨some 6, .load 2 true, [.t 5], none⟩, ⟨some 7, .p (.faddr 4), [.t 1], none⟩, ⟨some 8, .load 1 false, [.t 7], none⟩, ⟨some 9, .p (.build [.int .i64 0, .int .i64 0] [(0, 1), (1, 1)]), [.t 8, .c (.int .i64 1099511627776)], none⟩, ⟨some 10, .p (.build [.int .i64 0, .int .i64 0, .int .i64 0, .int .i64 0, .int .i64 0, .int .i64 0] [(0, 2), (2, 2), (4, 2)]), [.t 4, .t 6, .t 9], none⟩, ⟨none, .store 6 true, [.t 2, .t 10], none⟩]) (.ret))
theorem c19 : FnC Try.prog 19 11 a19 [.cell 2 6 true] := ⟨Try.call19, _, _, Try.func19, rfl, by kernel_rfl, by kernel_rfl, rfl⟩
def a31 : AC := .seq (.ops false [] [⟨some 0, .alloc 75 4 [.agg [.int .i64 0, .int .i64 0, .int .i64 0, .int .i64 0]], [], none⟩]) (.seq (.ops false [] [⟨some 1, .p (.build [.int .i64 0, .int .i64 0] [(1, 1)]), [.c (.int .i64 10)], none⟩, ⟨some 2, .p (.build [.int .i64 0, .int .i64 0, .int .i64 0, .int .i64 0] [(0, 2), (2, 1), (3, 1)]), [.t 1, .c (.int .i64 3), .c (.int .i64 10)], none⟩, ⟨none, .store 4 true, [.t 0, .t 2], none⟩]) (.ret))
theorem c31 : FnC Try.prog 31 3 a31 [.cell 0 4 true] := ⟨Try.call31, _, _, Try.func31, rfl, by kernel_rfl, by kernel_rfl, rfl⟩
def a32 : AC := .seq (.ops false [] [⟨some 0, .alloc 78 3 [.agg [.int .i64 0, .int .i64 0, .int .i64 0]], [], none⟩]) (.seq (.ops false [] [⟨some 1, .p (.build [.int .i64 0, .int .i64 0, .int .i64 0] [(2, 1)]), [.c (.int .i64 1)], none⟩, ⟨none, .store 3 true, [.t 0, .t 1], none⟩]) (.ret))
theorem c32 : FnC Try.prog 32 2 a32 [.cell 0 3 true] := ⟨Try.call32, _, _, Try.func32, rfl, by kernel_rfl, by kernel_rfl, rfl⟩
def a38 : AC := .seq (.ops false [] [⟨some 0, .alloc 40 6 [.agg [.int .i64 0, .int .i64 0, .int .i64 0, .int .i64 0, .int .i64 0, .int .i64 0]], [], none⟩]) (.seq (.ops false [] [⟨some 1, .p (.build [.int .i64 0, .int .i64 0] [(1, 1)]), [.c (.int .i64 2)], none⟩, ⟨some 2, .p (.build [.int .i64 0, .int .i64 0] [(0, 1), (1, 1)]), [.c (.int .i64 10), .c (.int .i64 12)], none⟩, ⟨some 3, .p (.build [.int .i64 0, .int .i64 0] [(0, 1), (1, 1)]), [.c (.int .i64 8), .c (.int .i64 10)], none⟩, ⟨some 4, .p (.build [.int .i64 0, .int .i64 0, .int .i64 0, .int .i64 0, .int .i64 0, .int .i64 0] [(0, 2), (2, 2), (4, 2)]), [.t 1, .t 2, .t 3], none⟩, ⟨none, .store 6 true, [.t 0, .t 4], none⟩]) (.ret))
theorem c38 : FnC Try.prog 38 5 a38 [.cell 0 6 true] := ⟨Try.call38, _, _, Try.func38, rfl, by kernel_rfl, by kernel_rfl, rfl⟩
def a39 : AC := .seq (.ops false [] [⟨some 0, .alloc 45 6 [.agg [.int .i64 0, .int .i64 0, .int .i64 0, .int .i64 0, .int .i64 0, .int .i64 0]], [], none⟩]) (.seq (.ops false [] [⟨some 1, .p (.build [.int .i64 0, .int .i64 0] [(0, 1), (1, 1)]), [.c (.int .i64 (-1)), .c (.int .i64 1)], none⟩, ⟨some 2, .p (.build [.int .i64 0, .int .i64 0] [(0, 1), (1, 1)]), [.c (.int .i64 1), .c (.int .i64 2)], none⟩, ⟨some 3, .p (.build [.int .i64 0, .int .i64 0] [(1, 1)]), [.c (.int .i64 1)], none⟩, ⟨some 4, .p (.build [.int .i64 0, .int .i64 0, .int .i64 0, .int .i64 0, .int .i64 0, .int .i64 0] [(0, 2), (2, 2), (4, 2)]), [.t 1, .t 2, .t 3], none⟩, ⟨none, .store 6 true, [.t 0, .t 4], none⟩]) (.ret))
theorem c39 : FnC Try.prog 39 5 a39 [.cell 0 6 true] := ⟨Try.call39, _, _, Try.func39, rfl, by kernel_rfl, by kernel_rfl, rfl⟩
def a40 : AC := .seq (.ops false [] [⟨some 0, .alloc 47 7 [.agg [.int .i64 0, .int .i64 0, .int .i64 0, .int .i64 0, .int .i64 0, .int .i64 0, .int .i64 0]], [], none⟩]) (.seq (.ops false [] [⟨some 1, .p (.build [.int .i64 0, .int .i64 0] [(0, 1), (1, 1)]), [.c (.int .i64 (-100)), .c (.int .i64 100)], none⟩, ⟨some 2, .p (.build [.int .i64 0, .int .i64 0] [(0, 1), (1, 1)]), [.c (.int .i64 5), .c (.int .i64 50)], none⟩, ⟨some 3, .p (.build [.int .i64 0, .int .i64 0, .int .i64 0, .int .i64 0, .int .i64 0, .int .i64 0, .int .i64 0] [(0, 2), (2, 2), (4, 1), (6, 1)]), [.t 1, .t 2, .c (.int .i64 1), .c (.int .i64 20)], none⟩, ⟨none, .store 7 true, [.t 0, .t 3], none⟩]) (.ret))
theorem c40 : FnC Try.prog 40 4 a40 [.cell 0 7 true] := ⟨Try.call40, _, _, Try.func40, rfl, by kernel_rfl, by kernel_rfl, rfl⟩
def a49 : AC := .seq (.ops false [] [⟨some 2, .box 40 6 1 true, [.t 0], none⟩, ⟨some 3, .box 45 6 1 true, [.t 1], none⟩, ⟨some 4, .p (.mov), [.c (.int .i64 0)], none⟩]) (.seq (.seq (.ops false [] [⟨some 6, .load 6 true, [.t 2], none⟩, ⟨some 7, .call 77, [.t 6], none⟩, ⟨some 5, .p (.mov), [.t 7], none⟩]) (.seq (.ops false [] [⟨some 8, .p (.mov), [.t 5], none⟩, ⟨some 9, .p (.binI .neq), [.t 8, .c (.int .i64 0)], none⟩]) (.cond (.t 9) (.seq (.ops false [] [⟨some 10, .p (.mov), [.t 5], none⟩, ⟨some 4, .p (.mov), [.t 10], none⟩]) (.ret)) (.skip)))) (.seq (.ops false [] [⟨some 11, .load 6 true, [.t 3], none⟩, ⟨some 12, .call 78, [.t 11], none⟩, ⟨some 4, .p (.mov), [.t 12], none⟩]) (.ret)))
theorem c49 : FnC Try.prog 49 13 a49 [.tmp 4] := ⟨Try.call49, _, _, Try.func49, rfl, by kernel_rfl, by kernel_rfl, rfl⟩
def a50 : AC := .seq (.ops false [] [⟨some 1, .box 47 7 1 true, [.t 0], none⟩, ⟨some 2, .p (.mov), [.c (.int .i64 0)], none⟩]) (.seq (.seq (.ops false [] [⟨some 3, .p (.faddr 0), [.t 1], none⟩, ⟨some 4, .load 2 true, [.t 3], none⟩, ⟨some 5, .call 79, [.t 4, .c (.int .i64 (-1000000)), .c (.int .i64 1000000)], none⟩, ⟨some 6, .p (.notB), [.t 5], none⟩, ⟨some 7, .p (.mov), [.t 6], none⟩, ⟨some 8, .p (.faddr 2), [.t 1], some (7, false)⟩, ⟨some 9, .load 2 true, [.t 8], some (7, false)⟩, ⟨some 10, .call 79, [.t 9, .c (.int .i64 (-1000000)), .c (.int .i64 1000000)], some (7, false)⟩, ⟨some 11, .p (.notB), [.t 10], some (7, false)⟩, ⟨some 12, .p (.pick), [.t 7, .c (.bool true), .t 11], none⟩, ⟨some 13, .p (.mov), [.t 12], none⟩, ⟨some 14, .p (.faddr 4), [.t 1], some (13, false)⟩, ⟨some 15, .load 1 false, [.t 14], some (13, false)⟩, ⟨some 16, .call 20, [.t 15, .c (.int .i64 0), .c (.int .i64 10000)], some (13, false)⟩, ⟨some 17, .p (.notB), [.t 16], some (13, false)⟩, ⟨some 18, .p (.pick), [.t 13, .c (.bool true), .t 17], none⟩, ⟨some 19, .p (.mov), [.t 18], none⟩, ⟨some 20, .p (.faddr 5), [.t 1], some (19, false)⟩, ⟨some 21, .load 1 false, [.t 20], some (19, false)⟩, ⟨some 22, .call 80, [.t 21], some (19, false)⟩, ⟨some 23, .p (.binI .neq), [.t 22, .c (.int .i64 0)], some (19, false)⟩, ⟨some 24, .p (.pick), [.t 19, .c (.bool true), .t 23], none⟩, ⟨some 25, .p (.mov), [.t 24], none⟩, ⟨some 26, .p (.faddr 6), [.t 1], some (25, false)⟩, ⟨some 27, .load 1 false, [.t 26], some (25, false)⟩, ⟨some 28, .call 80, [.t 27], some (25, false)⟩, ⟨some 29, .p (.binI .neq), [.t 28, .c (.int .i64 0)], some (25, false)⟩, ⟨some 30, .p (.pick), [.t 25, .c (.bool true), .t 29], none⟩]) (.cond (.t 30) (.seq (.ops false [] [⟨some 2, .p (.mov), [.c (.int .i64 2)], none⟩]) (.ret)) (.skip))) (.seq (.seq (.ops false [] [⟨some 31, .p (.faddr 0), [.t 1], none⟩, ⟨some 32, .p (.faddr 0), [.t 31], none⟩, ⟨some 33, .load 1 false, [.t 32], none⟩, ⟨some 34, .p (.faddr 0), [.t 1], none⟩, ⟨some 35, .p (.faddr 1), [.t 34], none⟩, ⟨some 36, .load 1 false, [.t 35], none⟩, ⟨some 37, .p (.binI .gtr), [.t 33, .t 36], none⟩, ⟨some 38, .p (.mov), [.t 37], none⟩, ⟨some 39, .p (.faddr 2), [.t 1], some (38, false)⟩, ⟨some 40, .p (.faddr 0), [.t 39], some (38, false)⟩, ⟨some 41, .load 1 false, [.t 40], some (38, false)⟩, ⟨some 42, .p (.faddr 2), [.t 1], some (38, false)⟩, ⟨some 43, .p (.faddr 1), [.t 42], some (38, false)⟩, ⟨some 44, .load 1 false, [.t 43], some (38, false)⟩, ⟨some 45, .p (.binI .gtr), [.t 41, .t 44], some (38, false)⟩, ⟨some 46, .p (.pick), [.t 38, .c (.bool true), .t 45], none⟩, ⟨some 47, .p (.mov), [.t 46], none⟩, ⟨some 48, .p (.faddr 5), [.t 1], some (47, false)⟩, ⟨some 49, .load 1 false, [.t 48], some (47, false)⟩, ⟨some 50, .p (.faddr 6), [.t 1], some (47, false)⟩, ⟨some 51, .load 1 false, [.t 50], some (47, false)⟩, ⟨some 52, .p (.binI .gtr), [.t 49, .t 51], some (47, false)⟩, ⟨some 53, .p (.pick), [.t 47, .c (.bool true), .t 52], none⟩]) (.cond (.t 53) (.seq (.ops false [] [⟨some 2, .p (.mov), [.c (.int .i64 9)], none⟩]) (.ret)) (.skip))) (.seq (.ops false [] [⟨some 2, .p (.mov), [.c (.int .i64 0)], none⟩]) (.ret))))
theorem c50 : FnC Try.prog 50 54 a50 [.tmp 2] := ⟨Try.call50, _, _, Try.func50, rfl, by kernel_rfl, by kernel_rfl, rfl⟩
def a77 : AC := .seq (.ops false [] [⟨some 1, .box 40 6 1 true, [.t 0], none⟩, ⟨some 2, .p (.mov), [.c (.int .i64 0)], none⟩]) (.seq (.seq (.ops false [] [⟨some 3, .p (.faddr 0), [.t 1], none⟩, ⟨some 4, .load 2 true, [.t 3], none⟩, ⟨some 5, .call 79, [.t 4, .c (.int .i64 (-1000000)), .c (.int .i64 1000000)], none⟩, ⟨some 6, .p (.notB), [.t 5], none⟩, ⟨some 7, .p (.mov), [.t 6], none⟩, ⟨some 8, .p (.faddr 2), [.t 1], some (7, false)⟩, ⟨some 9, .load 2 true, [.t 8], some (7, false)⟩, ⟨some 10, .call 79, [.t 9, .c (.int .i64 0), .c (.int .i64 1000000)], some (7, false)⟩, ⟨some 11, .p (.notB), [.t 10], some (7, false)⟩, ⟨some 12, .p (.pick), [.t 7, .c (.bool true), .t 11], none⟩, ⟨some 13, .p (.mov), [.t 12], none⟩, ⟨some 14, .p (.faddr 4), [.t 1], some (13, false)⟩, ⟨some 15, .load 2 true, [.t 14], some (13, false)⟩, ⟨some 16, .call 79, [.t 15, .c (.int .i64 0), .c (.int .i64 10000)], some (13, false)⟩, ⟨some 17, .p (.notB), [.t 16], some (13, false)⟩, ⟨some 18, .p (.pick), [.t 13, .c (.bool true), .t 17], none⟩]) (.cond (.t 18) (.seq (.ops false [] [⟨some 2, .p (.mov), [.c (.int .i64 2)], none⟩]) (.ret)) (.skip))) (.seq (.seq (.ops false [] [⟨some 19, .p (.faddr 0), [.t 1], none⟩, ⟨some 20, .p (.faddr 0), [.t 19], none⟩, ⟨some 21, .load 1 false, [.t 20], none⟩, ⟨some 22, .p (.faddr 0), [.t 1], none⟩, ⟨some 23, .p (.faddr 1), [.t 22], none⟩, ⟨some 24, .load 1 false, [.t 23], none⟩, ⟨some 25, .p (.binI .gtr), [.t 21, .t 24], none⟩, ⟨some 26, .p (.mov), [.t 25], none⟩, ⟨some 27, .p (.faddr 2), [.t 1], some (26, false)⟩, ⟨some 28, .p (.faddr 0), [.t 27], some (26, false)⟩, ⟨some 29, .load 1 false, [.t 28], some (26, false)⟩, ⟨some 30, .p (.faddr 2), [.t 1], some (26, false)⟩, ⟨some 31, .p (.faddr 1), [.t 30], some (26, false)⟩, ⟨some 32, .load 1 false, [.t 31], some (26, false)⟩, ⟨some 33, .p (.binI .gtr), [.t 29, .t 32], some (26, false)⟩, ⟨some 34, .p (.pick), [.t 26, .c (.bool true), .t 33], none⟩, ⟨some 35, .p (.mov), [.t 34], none⟩, ⟨some 36, .p (.faddr 4), [.t 1], some (35, false)⟩, ⟨some 37, .p (.faddr 0), [.t 36], some (35, false)⟩, ⟨some 38, .load 1 false, [.t 37], some (35, false)⟩, ⟨some 39, .p (.faddr 4), [.t 1], some (35, false)⟩, ⟨some 40, .p (.faddr 1), [.t 39], some (35, false)⟩, ⟨some 41, .load 1 false, [.t 40], some (35, false)⟩, ⟨some 42, .p (.binI .gtr), [.t 38, .t 41], some (35, false)⟩, ⟨some 43, .p (.pick), [.t 35, .c (.bool true), .t 42], none⟩]) (.cond (.t 43) (.seq (.ops false [] [⟨some 2, .p (.mov), [.c (.int .i64 9)], none⟩]) (.ret)) (.skip))) (.seq (.ops false [] [⟨some 2, .p (.mov), [.c (.int .i64 0)], none⟩]) (.ret))))
theorem c77 : FnC Try.prog 77 44 a77 [.tmp 2] := ⟨Try.call77, _, _, Try.func77, rfl, by kernel_rfl, by kernel_rfl, rfl⟩
def a78 : AC := .seq (.ops false [] [⟨some 1, .box 45 6 1 true, [.t 0], none⟩, ⟨some 2, .p (.mov), [.c (.int .i64 0)], none⟩]) (.seq (.seq (.ops false [] [⟨some 3, .p (.faddr 0), [.t 1], none⟩, ⟨some 4, .load 2 true, [.t 3], none⟩, ⟨some 5, .call 79, [.t 4, .c (.int .i64 (-100)), .c (.int .i64 100)], none⟩, ⟨some 6, .p (.notB), [.t 5], none⟩, ⟨some 7, .p (.mov), [.t 6], none⟩, ⟨some 8, .p (.faddr 2), [.t 1], some (7, false)⟩, ⟨some 9, .load 2 true, [.t 8], some (7, false)⟩, ⟨some 10, .call 79, [.t 9, .c (.int .i64 0), .c (.int .i64 100)], some (7, false)⟩, ⟨some 11, .p (.notB), [.t 10], some (7, false)⟩, ⟨some 12, .p (.pick), [.t 7, .c (.bool true), .t 11], none⟩, ⟨some 13, .p (.mov), [.t 12], none⟩, ⟨some 14, .p (.faddr 4), [.t 1], some (13, false)⟩, ⟨some 15, .load 2 true, [.t 14], some (13, false)⟩, ⟨some 16, .call 79, [.t 15, .c (.int .i64 0), .c (.int .i64 100)], some (13, false)⟩, ⟨some 17, .p (.notB), [.t 16], some (13, false)⟩, ⟨some 18, .p (.pick), [.t 13, .c (.bool true), .t 17], none⟩]) (.cond (.t 18) (.seq (.ops false [] [⟨some 2, .p (.mov), [.c (.int .i64 2)], none⟩]) (.ret)) (.skip))) (.seq (.seq (.ops false [] [⟨some 19, .p (.faddr 0), [.t 1], none⟩, ⟨some 20, .p (.faddr 0), [.t 19], none⟩, ⟨some 21, .load 1 false, [.t 20], none⟩, ⟨some 22, .p (.faddr 0), [.t 1], none⟩, ⟨some 23, .p (.faddr 1), [.t 22], none⟩, ⟨some 24, .load 1 false, [.t 23], none⟩, ⟨some 25, .p (.binI .gtr), [.t 21, .t 24], none⟩, ⟨some 26, .p (.mov), [.t 25], none⟩, ⟨some 27, .p (.faddr 2), [.t 1], some (26, false)⟩, ⟨some 28, .p (.faddr 0), [.t 27], some (26, false)⟩, ⟨some 29, .load 1 false, [.t 28], some (26, false)⟩, ⟨some 30, .p (.faddr 2), [.t 1], some (26, false)⟩, ⟨some 31, .p (.faddr 1), [.t 30], some (26, false)⟩, ⟨some 32, .load 1 false, [.t 31], some (26, false)⟩, ⟨some 33, .p (.binI .gtr), [.t 29, .t 32], some (26, false)⟩, ⟨some 34, .p (.pick), [.t 26, .c (.bool true), .t 33], none⟩, ⟨some 35, .p (.mov), [.t 34], none⟩, ⟨some 36, .p (.faddr 4), [.t 1], some (35, false)⟩, ⟨some 37, .p (.faddr 0), [.t 36], some (35, false)⟩, ⟨some 38, .load 1 false, [.t 37], some (35, false)⟩, ⟨some 39, .p (.faddr 4), [.t 1], some (35, false)⟩, ⟨some 40, .p (.faddr 1), [.t 39], some (35, false)⟩, ⟨some 41, .load 1 false, [.t 40], some (35, false)⟩, ⟨some 42, .p (.binI .gtr), [.t 38, .t 41], some (35, false)⟩, ⟨some 43, .p (.pick), [.t 35, .c (.bool true), .t 42], none⟩]) (.cond (.t 43) (.seq (.ops false [] [⟨some 2, .p (.mov), [.c (.int .i64 9)], none⟩]) (.ret)) (.skip))) (.seq (.ops false [] [⟨some 2, .p (.mov), [.c (.int .i64 0)], none⟩]) (.ret))))
theorem c78 : FnC Try.prog 78 44 a78 [.tmp 2] := ⟨Try.call78, _, _, Try.func78, rfl, by kernel_rfl, by kernel_rfl, rfl⟩
def a80 : AC := .seq (.ops false [] [⟨some 2, .p (.mov), [.c (.int .i64 0)], none⟩]) (.seq (.seq (.ops false [] [⟨some 3, .p (.mov), [.t 0], none⟩, ⟨some 4, .call 20, [.t 3, .c (.int .i64 0), .c (.int .i64 1000)], none⟩, ⟨some 5, .p (.notB), [.t 4], none⟩]) (.cond (.t 5) (.seq (.ops false [] [⟨some 2, .p (.mov), [.c (.int .i64 2)], none⟩]) (.ret)) (.skip))) (.seq (.ops false [] [⟨some 2, .p (.mov), [.c (.int .i64 0)], none⟩]) (.ret)))
theorem c80 : FnC Try.prog 80 6 a80 [.tmp 2] := ⟨Try.call80, _, _, Try.func80, rfl, by kernel_rfl, by kernel_rfl, rfl⟩
namespace Wa
theorem k_rBoxErr (b : Bx) : FOk P 77 [eBx b] (I (bxE b)) := by
  unfold bxE
  by_cases h0 : bxR b
  · have h0' : inR (-1000000) 1000000 b.yl b.yh ∧ inR 0 1000000 b.zl b.zh ∧ inR 0 10000 b.sl b.sh := ⟨h0.1.1, h0.1.2, h0.2⟩
    have q1 := eq_true h0'.1
    have q2 := eq_true h0'.2.1
    have q3 := eq_true h0'.2.2
    rw [unl_t 2 h0]
    by_cases c1 : b.yl ≤ b.yh
    · rw [unl_t 9 c1]
      have c1' : (b.yh < b.yl) = False := eq_false (by omega)
      by_cases c2 : b.zl ≤ b.zh
      · rw [unl_t 9 c2]
        have c2' : (b.zh < b.zl) = False := eq_false (by omega)
        by_cases c3 : b.sl ≤ b.sh
        · rw [unl_t 9 c3]
          have c3' : (b.sh < b.sl) = False := eq_false (by omega)
          refine c77.fok rfl (Cor.run (addC_good g_rwithin2 (noC_good _)) (noHx_good _) hm ?_)
          simp +contextual -implicitDefEqProofs (maxSteps := 2000000) only [bg_eq, a77, x_rwithin2, q1, q2, q3, c1', c2', c3', not_true_eq_false, firstE, ruB, rh_no, Int.reduceLT, Int.reduceLE, Int.reduceAdd, Int.reduceSub, Int.reduceMul, Int.reduceNeg, Int.reduceToNat, Int.reduceEq, Int.reduceNe, Int.reduceTDiv, Int.reduceTMod, implies_true, putL, appN, appX, appC, Eng.Fi, reduceCtorEq, exists_eq_left', exists_eq_left, if_true, if_false, List.replicate, Nat.reduceAdd, Nat.reduceSub, Nat.reduceMul, Nat.reduceLeDiff, Nat.reduceLT, Nat.reduceEqDiff]
        · rw [unl_f 9 c3]
          have c3' : (b.sh < b.sl) = True := eq_true (by omega)
          refine c77.fok rfl (Cor.run (addC_good g_rwithin2 (noC_good _)) (noHx_good _) hm ?_)
          simp +contextual -implicitDefEqProofs (maxSteps := 2000000) only [bg_eq, a77, x_rwithin2, q1, q2, q3, c1', c2', c3', not_true_eq_false, firstE, ruB, rh_no, Int.reduceLT, Int.reduceLE, Int.reduceAdd, Int.reduceSub, Int.reduceMul, Int.reduceNeg, Int.reduceToNat, Int.reduceEq, Int.reduceNe, Int.reduceTDiv, Int.reduceTMod, implies_true, putL, appN, appX, appC, Eng.Fi, reduceCtorEq, exists_eq_left', exists_eq_left, if_true, if_false, List.replicate, Nat.reduceAdd, Nat.reduceSub, Nat.reduceMul, Nat.reduceLeDiff, Nat.reduceLT, Nat.reduceEqDiff]
      · rw [unl_f 9 c2]
        have c2' : (b.zh < b.zl) = True := eq_true (by omega)
        refine c77.fok rfl (Cor.run (addC_good g_rwithin2 (noC_good _)) (noHx_good _) hm ?_)
        simp +contextual -implicitDefEqProofs (maxSteps := 2000000) only [bg_eq, a77, x_rwithin2, q1, q2, q3, c1', c2', not_true_eq_false, firstE, ruB, rh_no, Int.reduceLT, Int.reduceLE, Int.reduceAdd, Int.reduceSub, Int.reduceMul, Int.reduceNeg, Int.reduceToNat, Int.reduceEq, Int.reduceNe, Int.reduceTDiv, Int.reduceTMod, implies_true, putL, appN, appX, appC, Eng.Fi, reduceCtorEq, exists_eq_left', exists_eq_left, if_true, if_false, List.replicate, Nat.reduceAdd, Nat.reduceSub, Nat.reduceMul, Nat.reduceLeDiff, Nat.reduceLT, Nat.reduceEqDiff]
    · rw [unl_f 9 c1]
      have c1' : (b.yh < b.yl) = True := eq_true (by omega)
      refine c77.fok rfl (Cor.run (addC_good g_rwithin2 (noC_good _)) (noHx_good _) hm ?_)
      simp +contextual -implicitDefEqProofs (maxSteps := 2000000) only [bg_eq, a77, x_rwithin2, q1, q2, q3, c1', not_true_eq_false, firstE, ruB, rh_no, Int.reduceLT, Int.reduceLE, Int.reduceAdd, Int.reduceSub, Int.reduceMul, Int.reduceNeg, Int.reduceToNat, Int.reduceEq, Int.reduceNe, Int.reduceTDiv, Int.reduceTMod, implies_true, putL, appN, appX, appC, Eng.Fi, reduceCtorEq, exists_eq_left', exists_eq_left, if_true, if_false, List.replicate, Nat.reduceAdd, Nat.reduceSub, Nat.reduceMul, Nat.reduceLeDiff, Nat.reduceLT, Nat.reduceEqDiff]
  · rw [unl_f 2 h0]
    have hf : firstE [2, unl (b.yl ≤ b.yh) 9, unl (b.zl ≤ b.zh) 9, unl (b.sl ≤ b.sh) 9] = 2 := rfl
    rw [hf]
    refine c77.fok rfl (Cor.run (addC_good g_rwithin2 (noC_good _)) (noHx_good _) hm ?_)
    by_cases q1 : inR (-1000000) 1000000 b.yl b.yh
    · have q1' := eq_true q1
      by_cases q2 : inR 0 1000000 b.zl b.zh
      · have q2' := eq_true q2
        have q3' : inR 0 10000 b.sl b.sh = False := eq_false fun q3 => h0 ⟨⟨q1, q2⟩, q3⟩
        simp +contextual -implicitDefEqProofs (maxSteps := 2000000) only [bg_eq, a77, x_rwithin2, q1', q2', q3', not_true_eq_false, not_false_eq_true, ruB, rh_no, Int.reduceLT, Int.reduceLE, Int.reduceAdd, Int.reduceSub, Int.reduceMul, Int.reduceNeg, Int.reduceToNat, Int.reduceEq, Int.reduceNe, Int.reduceTDiv, Int.reduceTMod, implies_true, putL, appN, appX, appC, Eng.Fi, reduceCtorEq, exists_eq_left', exists_eq_left, if_true, if_false, List.replicate, Nat.reduceAdd, Nat.reduceSub, Nat.reduceMul, Nat.reduceLeDiff, Nat.reduceLT, Nat.reduceEqDiff]
      · have q2' := eq_false q2
        simp +contextual -implicitDefEqProofs (maxSteps := 2000000) only [bg_eq, a77, x_rwithin2, q1', q2', not_true_eq_false, not_false_eq_true, ruB, rh_no, Int.reduceLT, Int.reduceLE, Int.reduceAdd, Int.reduceSub, Int.reduceMul, Int.reduceNeg, Int.reduceToNat, Int.reduceEq, Int.reduceNe, Int.reduceTDiv, Int.reduceTMod, implies_true, putL, appN, appX, appC, Eng.Fi, reduceCtorEq, exists_eq_left', exists_eq_left, if_true, if_false, List.replicate, Nat.reduceAdd, Nat.reduceSub, Nat.reduceMul, Nat.reduceLeDiff, Nat.reduceLT, Nat.reduceEqDiff]
    · have q1' := eq_false q1
      simp +contextual -implicitDefEqProofs (maxSteps := 2000000) only [bg_eq, a77, x_rwithin2, q1', not_true_eq_false, not_false_eq_true, ruB, rh_no, Int.reduceLT, Int.reduceLE, Int.reduceAdd, Int.reduceSub, Int.reduceMul, Int.reduceNeg, Int.reduceToNat, Int.reduceEq, Int.reduceNe, Int.reduceTDiv, Int.reduceTMod, implies_true, putL, appN, appX, appC, Eng.Fi, reduceCtorEq, exists_eq_left', exists_eq_left, if_true, if_false, List.replicate, Nat.reduceAdd, Nat.reduceSub, Nat.reduceMul, Nat.reduceLeDiff, Nat.reduceLT, Nat.reduceEqDiff]
def cf_rBoxErr : List AV → Option AV
  | [.agg [.int .i64 b_yl, .int .i64 b_yh, .int .i64 b_zl, .int .i64 b_zh, .int .i64 b_sl, .int .i64 b_sh]] => some (I (bxE (⟨b_yl, b_yh, b_zl, b_zh, b_sl, b_sh⟩ : Bx)))
  | _ => none
theorem g_rBoxErr : Fn P 77 cf_rBoxErr := fun args v hh => by
  unfold cf_rBoxErr at hh; split at hh
  · have hk := Option.some.inj hh; subst hk; exact k_rBoxErr ⟨_, _, _, _, _, _⟩
  · cases hh
theorem x_rBoxErr (b : Bx) : cf_rBoxErr [.agg [I b.yl, I b.yh, I b.zl, I b.zh, I b.sl, I b.sh]] = some (I (bxE b)) := by
  rfl
theorem k_rDriftErr (b : Bx) : FOk P 78 [eBx b] (I (dfE b)) := by
  unfold dfE
  by_cases h0 : dfR b
  · have h0' : inR (-100) 100 b.yl b.yh ∧ inR 0 100 b.zl b.zh ∧ inR 0 100 b.sl b.sh := ⟨h0.1.1, h0.1.2, h0.2⟩
    have q1 := eq_true h0'.1
    have q2 := eq_true h0'.2.1
    have q3 := eq_true h0'.2.2
    rw [unl_t 2 h0]
    by_cases c1 : b.yl ≤ b.yh
    · rw [unl_t 9 c1]
      have c1' : (b.yh < b.yl) = False := eq_false (by omega)
      by_cases c2 : b.zl ≤ b.zh
      · rw [unl_t 9 c2]
        have c2' : (b.zh < b.zl) = False := eq_false (by omega)
        by_cases c3 : b.sl ≤ b.sh
        · rw [unl_t 9 c3]
          have c3' : (b.sh < b.sl) = False := eq_false (by omega)
          refine c78.fok rfl (Cor.run (addC_good g_rwithin2 (noC_good _)) (noHx_good _) hm ?_)
          simp +contextual -implicitDefEqProofs (maxSteps := 2000000) only [bg_eq, a78, x_rwithin2, q1, q2, q3, c1', c2', c3', not_true_eq_false, firstE, ruB, rh_no, Int.reduceLT, Int.reduceLE, Int.reduceAdd, Int.reduceSub, Int.reduceMul, Int.reduceNeg, Int.reduceToNat, Int.reduceEq, Int.reduceNe, Int.reduceTDiv, Int.reduceTMod, implies_true, putL, appN, appX, appC, Eng.Fi, reduceCtorEq, exists_eq_left', exists_eq_left, if_true, if_false, List.replicate, Nat.reduceAdd, Nat.reduceSub, Nat.reduceMul, Nat.reduceLeDiff, Nat.reduceLT, Nat.reduceEqDiff]
        · rw [unl_f 9 c3]
          have c3' : (b.sh < b.sl) = True := eq_true (by omega)
          refine c78.fok rfl (Cor.run (addC_good g_rwithin2 (noC_good _)) (noHx_good _) hm ?_)
          simp +contextual -implicitDefEqProofs (maxSteps := 2000000) only [bg_eq, a78, x_rwithin2, q1, q2, q3, c1', c2', c3', not_true_eq_false, firstE, ruB, rh_no, Int.reduceLT, Int.reduceLE, Int.reduceAdd, Int.reduceSub, Int.reduceMul, Int.reduceNeg, Int.reduceToNat, Int.reduceEq, Int.reduceNe, Int.reduceTDiv, Int.reduceTMod, implies_true, putL, appN, appX, appC, Eng.Fi, reduceCtorEq, exists_eq_left', exists_eq_left, if_true, if_false, List.replicate, Nat.reduceAdd, Nat.reduceSub, Nat.reduceMul, Nat.reduceLeDiff, Nat.reduceLT, Nat.reduceEqDiff]
      · rw [unl_f 9 c2]
        have c2' : (b.zh < b.zl) = True := eq_true (by omega)
        refine c78.fok rfl (Cor.run (addC_good g_rwithin2 (noC_good _)) (noHx_good _) hm ?_)
        simp +contextual -implicitDefEqProofs (maxSteps := 2000000) only [bg_eq, a78, x_rwithin2, q1, q2, q3, c1', c2', not_true_eq_false, firstE, ruB, rh_no, Int.reduceLT, Int.reduceLE, Int.reduceAdd, Int.reduceSub, Int.reduceMul, Int.reduceNeg, Int.reduceToNat, Int.reduceEq, Int.reduceNe, Int.reduceTDiv, Int.reduceTMod, implies_true, putL, appN, appX, appC, Eng.Fi, reduceCtorEq, exists_eq_left', exists_eq_left, if_true, if_false, List.replicate, Nat.reduceAdd, Nat.reduceSub, Nat.reduceMul, Nat.reduceLeDiff, Nat.reduceLT, Nat.reduceEqDiff]
    · rw [unl_f 9 c1]
      have c1' : (b.yh < b.yl) = True := eq_true (by omega)
      refine c78.fok rfl (Cor.run (addC_good g_rwithin2 (noC_good _)) (noHx_good _) hm ?_)
      simp +contextual -implicitDefEqProofs (maxSteps := 2000000) only [bg_eq, a78, x_rwithin2, q1, q2, q3, c1', not_true_eq_false, firstE, ruB, rh_no, Int.reduceLT, Int.reduceLE, Int.reduceAdd, Int.reduceSub, Int.reduceMul, Int.reduceNeg, Int.reduceToNat, Int.reduceEq, Int.reduceNe, Int.reduceTDiv, Int.reduceTMod, implies_true, putL, appN, appX, appC, Eng.Fi, reduceCtorEq, exists_eq_left', exists_eq_left, if_true, if_false, List.replicate, Nat.reduceAdd, Nat.reduceSub, Nat.reduceMul, Nat.reduceLeDiff, Nat.reduceLT, Nat.reduceEqDiff]
  · rw [unl_f 2 h0]
    have hf : firstE [2, unl (b.yl ≤ b.yh) 9, unl (b.zl ≤ b.zh) 9, unl (b.sl ≤ b.sh) 9] = 2 := rfl
    rw [hf]
    refine c78.fok rfl (Cor.run (addC_good g_rwithin2 (noC_good _)) (noHx_good _) hm ?_)
    by_cases q1 : inR (-100) 100 b.yl b.yh
    · have q1' := eq_true q1
      by_cases q2 : inR 0 100 b.zl b.zh
      · have q2' := eq_true q2
        have q3' : inR 0 100 b.sl b.sh = False := eq_false fun q3 => h0 ⟨⟨q1, q2⟩, q3⟩
        simp +contextual -implicitDefEqProofs (maxSteps := 2000000) only [bg_eq, a78, x_rwithin2, q1', q2', q3', not_true_eq_false, not_false_eq_true, ruB, rh_no, Int.reduceLT, Int.reduceLE, Int.reduceAdd, Int.reduceSub, Int.reduceMul, Int.reduceNeg, Int.reduceToNat, Int.reduceEq, Int.reduceNe, Int.reduceTDiv, Int.reduceTMod, implies_true, putL, appN, appX, appC, Eng.Fi, reduceCtorEq, exists_eq_left', exists_eq_left, if_true, if_false, List.replicate, Nat.reduceAdd, Nat.reduceSub, Nat.reduceMul, Nat.reduceLeDiff, Nat.reduceLT, Nat.reduceEqDiff]
      · have q2' := eq_false q2
        simp +contextual -implicitDefEqProofs (maxSteps := 2000000) only [bg_eq, a78, x_rwithin2, q1', q2', not_true_eq_false, not_false_eq_true, ruB, rh_no, Int.reduceLT, Int.reduceLE, Int.reduceAdd, Int.reduceSub, Int.reduceMul, Int.reduceNeg, Int.reduceToNat, Int.reduceEq, Int.reduceNe, Int.reduceTDiv, Int.reduceTMod, implies_true, putL, appN, appX, appC, Eng.Fi, reduceCtorEq, exists_eq_left', exists_eq_left, if_true, if_false, List.replicate, Nat.reduceAdd, Nat.reduceSub, Nat.reduceMul, Nat.reduceLeDiff, Nat.reduceLT, Nat.reduceEqDiff]
    · have q1' := eq_false q1
      simp +contextual -implicitDefEqProofs (maxSteps := 2000000) only [bg_eq, a78, x_rwithin2, q1', not_true_eq_false, not_false_eq_true, ruB, rh_no, Int.reduceLT, Int.reduceLE, Int.reduceAdd, Int.reduceSub, Int.reduceMul, Int.reduceNeg, Int.reduceToNat, Int.reduceEq, Int.reduceNe, Int.reduceTDiv, Int.reduceTMod, implies_true, putL, appN, appX, appC, Eng.Fi, reduceCtorEq, exists_eq_left', exists_eq_left, if_true, if_false, List.replicate, Nat.reduceAdd, Nat.reduceSub, Nat.reduceMul, Nat.reduceLeDiff, Nat.reduceLT, Nat.reduceEqDiff]
def cf_rDriftErr : List AV → Option AV
  | [.agg [.int .i64 b_yl, .int .i64 b_yh, .int .i64 b_zl, .int .i64 b_zh, .int .i64 b_sl, .int .i64 b_sh]] => some (I (dfE (⟨b_yl, b_yh, b_zl, b_zh, b_sl, b_sh⟩ : Bx)))
  | _ => none
theorem g_rDriftErr : Fn P 78 cf_rDriftErr := fun args v hh => by
  unfold cf_rDriftErr at hh; split at hh
  · have hk := Option.some.inj hh; subst hk; exact k_rDriftErr ⟨_, _, _, _, _, _⟩
  · cases hh
theorem x_rDriftErr (b : Bx) : cf_rDriftErr [.agg [I b.yl, I b.yh, I b.zl, I b.zh, I b.sl, I b.sh]] = some (I (dfE b)) := by
  rfl
def tkE (n : Int) : Int := unl (tiR n) 2
theorem tkE_nz (n : Int) : (tkE n = 0) = tiR n := by
  unfold tkE unl
  split <;> simp [*]
theorem k_rTicksErr (n : Int) : FOk P 80 [I n] (I (tkE n)) := by
  unfold tkE
  by_cases h : tiR n
  · have h' := eq_true h
    rw [unl_t 2 h]
    unfold tiR at h'
    refine c80.fok rfl (Cor.run (addC_good g_Within (noC_good _)) (noHx_good _) hm ?_)
    simp +contextual -implicitDefEqProofs (maxSteps := 2000000) only [bg_eq, a80, x_Within, h', not_true_eq_false, ruB, rh_no, Int.reduceLT, Int.reduceLE, Int.reduceAdd, Int.reduceSub, Int.reduceMul, Int.reduceNeg, Int.reduceToNat, Int.reduceEq, Int.reduceNe, Int.reduceTDiv, Int.reduceTMod, implies_true, putL, appN, appX, appC, Eng.Fi, reduceCtorEq, exists_eq_left', exists_eq_left, if_true, if_false, List.replicate, Nat.reduceAdd, Nat.reduceSub, Nat.reduceMul, Nat.reduceLeDiff, Nat.reduceLT, Nat.reduceEqDiff]
  · have h' := eq_false h
    rw [unl_f 2 h]
    unfold tiR at h'
    refine c80.fok rfl (Cor.run (addC_good g_Within (noC_good _)) (noHx_good _) hm ?_)
    simp +contextual -implicitDefEqProofs (maxSteps := 2000000) only [bg_eq, a80, x_Within, h', not_false_eq_true, ruB, rh_no, Int.reduceLT, Int.reduceLE, Int.reduceAdd, Int.reduceSub, Int.reduceMul, Int.reduceNeg, Int.reduceToNat, Int.reduceEq, Int.reduceNe, Int.reduceTDiv, Int.reduceTMod, implies_true, putL, appN, appX, appC, Eng.Fi, reduceCtorEq, exists_eq_left', exists_eq_left, if_true, if_false, List.replicate, Nat.reduceAdd, Nat.reduceSub, Nat.reduceMul, Nat.reduceLeDiff, Nat.reduceLT, Nat.reduceEqDiff]
def cf_rTicksErr : List AV → Option AV
  | [.int .i64 n] => some (.int .i64 (tkE n))
  | _ => none
theorem g_rTicksErr : Fn P 80 cf_rTicksErr := fun args v h => by
  unfold cf_rTicksErr at h; split at h
  · have h := Option.some.inj h; subst h; exact k_rTicksErr _
  · cases h
theorem x_rTicksErr (n : Int) : cf_rTicksErr [.int .i64 n] = some (.int .i64 (tkE n)) := rfl
theorem k_rCorridorErr (c : Co) : FOk P 50 [eCo c] (I (coE c)) := by
  have t1 : (¬ tkE c.fr = 0) = (¬ tiR c.fr) := by rw [tkE_nz]
  have t2 : (¬ tkE c.to = 0) = (¬ tiR c.to) := by rw [tkE_nz]
  unfold coE
  by_cases h0 : coR c
  · have h0' := h0
    unfold coR at h0'
    have q1 := eq_true h0'.1.1.1.1
    have q2 := eq_true h0'.1.1.1.2
    have q3 := eq_true h0'.1.1.2
    have q4 := eq_true h0'.1.2
    have q5 := eq_true h0'.2
    rw [unl_t 2 h0]
    by_cases c1 : c.yl ≤ c.yh
    · rw [unl_t 9 c1]
      have c1' : (c.yh < c.yl) = False := eq_false (by omega)
      by_cases c2 : c.zl ≤ c.zh
      · rw [unl_t 9 c2]
        have c2' : (c.zh < c.zl) = False := eq_false (by omega)
        by_cases c3 : c.fr ≤ c.to
        · rw [unl_t 9 c3]
          have c3' : (c.to < c.fr) = False := eq_false (by omega)
          refine c50.fok rfl (Cor.run (addC_good g_rTicksErr (addC_good g_Within (addC_good g_rwithin2 (noC_good _)))) (noHx_good _) hm ?_)
          simp +contextual -implicitDefEqProofs (maxSteps := 2000000) only [bg_eq, a50, x_rwithin2, x_Within, x_rTicksErr, t1, t2, q1, q2, q3, q4, q5, c1', c2', c3', not_true_eq_false, firstE, ruB, rh_no, Int.reduceLT, Int.reduceLE, Int.reduceAdd, Int.reduceSub, Int.reduceMul, Int.reduceNeg, Int.reduceToNat, Int.reduceEq, Int.reduceNe, Int.reduceTDiv, Int.reduceTMod, implies_true, putL, appN, appX, appC, Eng.Fi, reduceCtorEq, exists_eq_left', exists_eq_left, if_true, if_false, List.replicate, Nat.reduceAdd, Nat.reduceSub, Nat.reduceMul, Nat.reduceLeDiff, Nat.reduceLT, Nat.reduceEqDiff]
        · rw [unl_f 9 c3]
          have c3' : (c.to < c.fr) = True := eq_true (by omega)
          refine c50.fok rfl (Cor.run (addC_good g_rTicksErr (addC_good g_Within (addC_good g_rwithin2 (noC_good _)))) (noHx_good _) hm ?_)
          simp +contextual -implicitDefEqProofs (maxSteps := 2000000) only [bg_eq, a50, x_rwithin2, x_Within, x_rTicksErr, t1, t2, q1, q2, q3, q4, q5, c1', c2', c3', not_true_eq_false, firstE, ruB, rh_no, Int.reduceLT, Int.reduceLE, Int.reduceAdd, Int.reduceSub, Int.reduceMul, Int.reduceNeg, Int.reduceToNat, Int.reduceEq, Int.reduceNe, Int.reduceTDiv, Int.reduceTMod, implies_true, putL, appN, appX, appC, Eng.Fi, reduceCtorEq, exists_eq_left', exists_eq_left, if_true, if_false, List.replicate, Nat.reduceAdd, Nat.reduceSub, Nat.reduceMul, Nat.reduceLeDiff, Nat.reduceLT, Nat.reduceEqDiff]
      · rw [unl_f 9 c2]
        have c2' : (c.zh < c.zl) = True := eq_true (by omega)
        refine c50.fok rfl (Cor.run (addC_good g_rTicksErr (addC_good g_Within (addC_good g_rwithin2 (noC_good _)))) (noHx_good _) hm ?_)
        simp +contextual -implicitDefEqProofs (maxSteps := 2000000) only [bg_eq, a50, x_rwithin2, x_Within, x_rTicksErr, t1, t2, q1, q2, q3, q4, q5, c1', c2', not_true_eq_false, firstE, ruB, rh_no, Int.reduceLT, Int.reduceLE, Int.reduceAdd, Int.reduceSub, Int.reduceMul, Int.reduceNeg, Int.reduceToNat, Int.reduceEq, Int.reduceNe, Int.reduceTDiv, Int.reduceTMod, implies_true, putL, appN, appX, appC, Eng.Fi, reduceCtorEq, exists_eq_left', exists_eq_left, if_true, if_false, List.replicate, Nat.reduceAdd, Nat.reduceSub, Nat.reduceMul, Nat.reduceLeDiff, Nat.reduceLT, Nat.reduceEqDiff]
    · rw [unl_f 9 c1]
      have c1' : (c.yh < c.yl) = True := eq_true (by omega)
      refine c50.fok rfl (Cor.run (addC_good g_rTicksErr (addC_good g_Within (addC_good g_rwithin2 (noC_good _)))) (noHx_good _) hm ?_)
      simp +contextual -implicitDefEqProofs (maxSteps := 2000000) only [bg_eq, a50, x_rwithin2, x_Within, x_rTicksErr, t1, t2, q1, q2, q3, q4, q5, c1', not_true_eq_false, firstE, ruB, rh_no, Int.reduceLT, Int.reduceLE, Int.reduceAdd, Int.reduceSub, Int.reduceMul, Int.reduceNeg, Int.reduceToNat, Int.reduceEq, Int.reduceNe, Int.reduceTDiv, Int.reduceTMod, implies_true, putL, appN, appX, appC, Eng.Fi, reduceCtorEq, exists_eq_left', exists_eq_left, if_true, if_false, List.replicate, Nat.reduceAdd, Nat.reduceSub, Nat.reduceMul, Nat.reduceLeDiff, Nat.reduceLT, Nat.reduceEqDiff]
  · rw [unl_f 2 h0]
    have hf : firstE [2, unl (c.yl ≤ c.yh) 9, unl (c.zl ≤ c.zh) 9, unl (c.fr ≤ c.to) 9] = 2 := rfl
    rw [hf]
    refine c50.fok rfl (Cor.run (addC_good g_rTicksErr (addC_good g_Within (addC_good g_rwithin2 (noC_good _)))) (noHx_good _) hm ?_)
    by_cases q1 : inR (-1000000) 1000000 c.yl c.yh
    · have q1' := eq_true q1
      by_cases q2 : inR (-1000000) 1000000 c.zl c.zh
      · have q2' := eq_true q2
        by_cases q3 : 0 ≤ c.lim ∧ c.lim ≤ 10000
        · have q3' := eq_true q3
          by_cases q4 : tiR c.fr
          · have q4' := eq_true q4
            have q5' : tiR c.to = False := eq_false fun q5 => h0 ⟨⟨⟨⟨q1, q2⟩, q3⟩, q4⟩, q5⟩
            simp +contextual -implicitDefEqProofs (maxSteps := 2000000) only [bg_eq, a50, x_rwithin2, x_Within, x_rTicksErr, t1, t2, q1', q2', q3', q4', q5', not_true_eq_false, not_false_eq_true, ruB, rh_no, Int.reduceLT, Int.reduceLE, Int.reduceAdd, Int.reduceSub, Int.reduceMul, Int.reduceNeg, Int.reduceToNat, Int.reduceEq, Int.reduceNe, Int.reduceTDiv, Int.reduceTMod, implies_true, putL, appN, appX, appC, Eng.Fi, reduceCtorEq, exists_eq_left', exists_eq_left, if_true, if_false, List.replicate, Nat.reduceAdd, Nat.reduceSub, Nat.reduceMul, Nat.reduceLeDiff, Nat.reduceLT, Nat.reduceEqDiff]
          · have q4' := eq_false q4
            simp +contextual -implicitDefEqProofs (maxSteps := 2000000) only [bg_eq, a50, x_rwithin2, x_Within, x_rTicksErr, t1, t2, q1', q2', q3', q4', not_true_eq_false, not_false_eq_true, ruB, rh_no, Int.reduceLT, Int.reduceLE, Int.reduceAdd, Int.reduceSub, Int.reduceMul, Int.reduceNeg, Int.reduceToNat, Int.reduceEq, Int.reduceNe, Int.reduceTDiv, Int.reduceTMod, implies_true, putL, appN, appX, appC, Eng.Fi, reduceCtorEq, exists_eq_left', exists_eq_left, if_true, if_false, List.replicate, Nat.reduceAdd, Nat.reduceSub, Nat.reduceMul, Nat.reduceLeDiff, Nat.reduceLT, Nat.reduceEqDiff]
        · have q3' := eq_false q3
          simp +contextual -implicitDefEqProofs (maxSteps := 2000000) only [bg_eq, a50, x_rwithin2, x_Within, x_rTicksErr, q1', q2', q3', not_true_eq_false, not_false_eq_true, ruB, rh_no, Int.reduceLT, Int.reduceLE, Int.reduceAdd, Int.reduceSub, Int.reduceMul, Int.reduceNeg, Int.reduceToNat, Int.reduceEq, Int.reduceNe, Int.reduceTDiv, Int.reduceTMod, implies_true, putL, appN, appX, appC, Eng.Fi, reduceCtorEq, exists_eq_left', exists_eq_left, if_true, if_false, List.replicate, Nat.reduceAdd, Nat.reduceSub, Nat.reduceMul, Nat.reduceLeDiff, Nat.reduceLT, Nat.reduceEqDiff]
      · have q2' := eq_false q2
        simp +contextual -implicitDefEqProofs (maxSteps := 2000000) only [bg_eq, a50, x_rwithin2, x_Within, x_rTicksErr, q1', q2', not_true_eq_false, not_false_eq_true, ruB, rh_no, Int.reduceLT, Int.reduceLE, Int.reduceAdd, Int.reduceSub, Int.reduceMul, Int.reduceNeg, Int.reduceToNat, Int.reduceEq, Int.reduceNe, Int.reduceTDiv, Int.reduceTMod, implies_true, putL, appN, appX, appC, Eng.Fi, reduceCtorEq, exists_eq_left', exists_eq_left, if_true, if_false, List.replicate, Nat.reduceAdd, Nat.reduceSub, Nat.reduceMul, Nat.reduceLeDiff, Nat.reduceLT, Nat.reduceEqDiff]
    · have q1' := eq_false q1
      simp +contextual -implicitDefEqProofs (maxSteps := 2000000) only [bg_eq, a50, x_rwithin2, x_Within, x_rTicksErr, q1', not_true_eq_false, not_false_eq_true, ruB, rh_no, Int.reduceLT, Int.reduceLE, Int.reduceAdd, Int.reduceSub, Int.reduceMul, Int.reduceNeg, Int.reduceToNat, Int.reduceEq, Int.reduceNe, Int.reduceTDiv, Int.reduceTMod, implies_true, putL, appN, appX, appC, Eng.Fi, reduceCtorEq, exists_eq_left', exists_eq_left, if_true, if_false, List.replicate, Nat.reduceAdd, Nat.reduceSub, Nat.reduceMul, Nat.reduceLeDiff, Nat.reduceLT, Nat.reduceEqDiff]
def cf_rCorridorErr : List AV → Option AV
  | [.agg [.int .i64 c_yl, .int .i64 c_yh, .int .i64 c_zl, .int .i64 c_zh, .int .i64 c_lim, .int .i64 c_fr, .int .i64 c_to]] => some (I (coE (⟨c_yl, c_yh, c_zl, c_zh, c_lim, c_fr, c_to⟩ : Co)))
  | _ => none
theorem g_rCorridorErr : Fn P 50 cf_rCorridorErr := fun args v hh => by
  unfold cf_rCorridorErr at hh; split at hh
  · have hk := Option.some.inj hh; subst hk; exact k_rCorridorErr ⟨_, _, _, _, _, _, _⟩
  · cases hh
theorem x_rCorridorErr (c : Co) : cf_rCorridorErr [.agg [I c.yl, I c.yh, I c.zl, I c.zh, I c.lim, I c.fr, I c.to]] = some (I (coE c)) := by
  rfl
def mvE (b d : Bx) : Int := if bxE b = 0 then dfE d else bxE b
theorem k_rMovesErr (b d : Bx) : FOk P 49 [eBx b, eBx d] (I (mvE b d)) := by
  have y1 := x_rBoxErr b
  have y2 := x_rDriftErr d
  by_cases h : bxE b = 0
  · have h' := eq_true h
    rw [mvE, if_pos h]
    refine c49.fok rfl (Cor.run (addC_good g_rDriftErr (addC_good g_rBoxErr (noC_good _))) (noHx_good _) hm ?_)
    simp +contextual -implicitDefEqProofs (maxSteps := 2000000) only [bg_eq, a49, y1, y2, h', not_true_eq_false, ruB, rh_no, Int.reduceLT, Int.reduceLE, Int.reduceAdd, Int.reduceSub, Int.reduceMul, Int.reduceNeg, Int.reduceToNat, Int.reduceEq, Int.reduceNe, Int.reduceTDiv, Int.reduceTMod, implies_true, putL, appN, appX, appC, Eng.Fi, reduceCtorEq, exists_eq_left', exists_eq_left, if_true, if_false, List.replicate, Nat.reduceAdd, Nat.reduceSub, Nat.reduceMul, Nat.reduceLeDiff, Nat.reduceLT, Nat.reduceEqDiff]
  · have h' := eq_false h
    rw [mvE, if_neg h]
    refine c49.fok rfl (Cor.run (addC_good g_rDriftErr (addC_good g_rBoxErr (noC_good _))) (noHx_good _) hm ?_)
    simp +contextual -implicitDefEqProofs (maxSteps := 2000000) only [bg_eq, a49, y1, y2, h', not_false_eq_true, ruB, rh_no, Int.reduceLT, Int.reduceLE, Int.reduceAdd, Int.reduceSub, Int.reduceMul, Int.reduceNeg, Int.reduceToNat, Int.reduceEq, Int.reduceNe, Int.reduceTDiv, Int.reduceTMod, implies_true, putL, appN, appX, appC, Eng.Fi, reduceCtorEq, exists_eq_left', exists_eq_left, if_true, if_false, List.replicate, Nat.reduceAdd, Nat.reduceSub, Nat.reduceMul, Nat.reduceLeDiff, Nat.reduceLT, Nat.reduceEqDiff]
def cf_rMovesErr : List AV → Option AV
  | [.agg [.int .i64 b_yl, .int .i64 b_yh, .int .i64 b_zl, .int .i64 b_zh, .int .i64 b_sl, .int .i64 b_sh], .agg [.int .i64 d_yl, .int .i64 d_yh, .int .i64 d_zl, .int .i64 d_zh, .int .i64 d_sl, .int .i64 d_sh]] => some (I (mvE (⟨b_yl, b_yh, b_zl, b_zh, b_sl, b_sh⟩ : Bx) (⟨d_yl, d_yh, d_zl, d_zh, d_sl, d_sh⟩ : Bx)))
  | _ => none
theorem g_rMovesErr : Fn P 49 cf_rMovesErr := fun args v hh => by
  unfold cf_rMovesErr at hh; split at hh
  · have hk := Option.some.inj hh; subst hk; exact k_rMovesErr ⟨_, _, _, _, _, _⟩ ⟨_, _, _, _, _, _⟩
  · cases hh
theorem x_rMovesErr (b : Bx) (d : Bx) : cf_rMovesErr [.agg [I b.yl, I b.yh, I b.zl, I b.zh, I b.sl, I b.sh], .agg [I d.yl, I d.yh, I d.zl, I d.zh, I d.sl, I d.sh]] = some (I (mvE b d)) := by
  rfl
def reG (c : Co) : Bx := ⟨c.yl, c.yh, c.zl, c.zh, c.lim, 1099511627776⟩
theorem k_rRegion (c : Co) : FOk P 19 [eCo c] (eBx (reG c)) := by
  refine c19.fok rfl (Cor.run (noC_good _) (noHx_good _) hm ?_)
  simp +contextual -implicitDefEqProofs (maxSteps := 2000000) only [bg_eq, a19, reG, ruB, rh_no, Int.reduceLT, Int.reduceLE, Int.reduceAdd, Int.reduceSub, Int.reduceMul, Int.reduceNeg, Int.reduceToNat, Int.reduceEq, Int.reduceNe, Int.reduceTDiv, Int.reduceTMod, implies_true, putL, appN, appX, appC, Eng.Fi, reduceCtorEq, exists_eq_left', exists_eq_left, if_true, if_false, List.replicate, Nat.reduceAdd, Nat.reduceSub, Nat.reduceMul, Nat.reduceLeDiff, Nat.reduceLT, Nat.reduceEqDiff]
def cf_rRegion : List AV → Option AV
  | [.agg [.int .i64 c_yl, .int .i64 c_yh, .int .i64 c_zl, .int .i64 c_zh, .int .i64 c_lim, .int .i64 c_fr, .int .i64 c_to]] => some (eBx (reG (⟨c_yl, c_yh, c_zl, c_zh, c_lim, c_fr, c_to⟩ : Co)))
  | _ => none
theorem g_rRegion : Fn P 19 cf_rRegion := fun args v hh => by
  unfold cf_rRegion at hh; split at hh
  · have hk := Option.some.inj hh; subst hk; exact k_rRegion ⟨_, _, _, _, _, _, _⟩
  · cases hh
theorem x_rRegion (c : Co) : cf_rRegion [.agg [I c.yl, I c.yh, I c.zl, I c.zh, I c.lim, I c.fr, I c.to]] = some (eBx (reG c)) := by
  rfl
end Wa
open Go Go.Proofs Eng
set_option maxRecDepth 100000
set_option linter.unusedSimpArgs false
set_option linter.unusedVariables false
namespace Wa
theorem k_CopyVortices (l : List Vo) (hl : l.length ≤ 1000) : FOk P 17 [.vs (l.map eVo)] (.vs (l.map eVo)) := by
  have m1 : (l.length ≤ maxLen) = True := mx (by omega)
  have m2 : (l.length * 24 ≤ 140737488355328) = True := by simp only [eq_iff_iff, iff_true]; omega
  have m3 : (l.map eVo).all (fun v => decide (v.cells.length = 3)) = true := by simp [List.all_map, AV.cells]
  refine c17.fok (by simp only [subs, sub1, free_Vo]) (Cor.run (noC_good _) (noHx_good _) hm ?_)
  simp +contextual -implicitDefEqProofs (maxSteps := 2000000) only [bg_eq, a17, List.length_map, m1, m2, m3, ruB, rh_no, Int.reduceLT, Int.reduceLE, Int.reduceAdd, Int.reduceSub, Int.reduceMul, Int.reduceNeg, Int.reduceToNat, Int.reduceEq, Int.reduceNe, Int.reduceTDiv, Int.reduceTMod, implies_true, putL, appN, appX, appC, Eng.Fi, reduceCtorEq, exists_eq_left', exists_eq_left, if_true, if_false, List.replicate, Nat.reduceAdd, Nat.reduceSub, Nat.reduceMul, Nat.reduceLeDiff, Nat.reduceLT, Nat.reduceEqDiff]
  have t1 : (l.map eVo).take l.length = l.map eVo := by rw [List.take_of_length_le]; simp
  simp [free_Vo, t1]
def cf_CopyVortices : List AV → Option AV
  | [.vs l_v] => onL dVo l_v fun l => if l.length ≤ 1000 then some (.vs (l.map eVo)) else none
  | _ => none
theorem g_CopyVortices : Fn P 17 cf_CopyVortices := fun args v hh => by
  unfold cf_CopyVortices at hh; split at hh
  · obtain ⟨l, rfl, hh1⟩ := onL_inv dVo_inv hh
    split at hh1
    · rename_i hc; have hk := Option.some.inj hh1; subst hk; exact k_CopyVortices _ hc
    · cases hh1
  · cases hh
theorem x_CopyVortices (l : List Vo) (hc : (l.length ≤ 1000) = True) : cf_CopyVortices [.vs (l.map eVo)] = some (.vs (l.map eVo)) := by
  simp only [cf_CopyVortices, onL_map dVo_e]
  exact if_pos (by rw [hc]; trivial)
theorem k_wPair : FOk P 31 [] (ePa ⟨0, 10, 3, 10⟩) := by
  refine c31.fok rfl (Cor.run (noC_good _) (noHx_good _) hm ?_)
  simp +contextual -implicitDefEqProofs (maxSteps := 2000000) only [bg_eq, a31, ruB, rh_no, Int.reduceLT, Int.reduceLE, Int.reduceAdd, Int.reduceSub, Int.reduceMul, Int.reduceNeg, Int.reduceToNat, Int.reduceEq, Int.reduceNe, Int.reduceTDiv, Int.reduceTMod, implies_true, putL, appN, appX, appC, Eng.Fi, reduceCtorEq, exists_eq_left', exists_eq_left, if_true, if_false, List.replicate, Nat.reduceAdd, Nat.reduceSub, Nat.reduceMul, Nat.reduceLeDiff, Nat.reduceLT, Nat.reduceEqDiff]
def cf_wPair : List AV → Option AV
  | [] => some (.agg [I 0, I 10, I 3, I 10])
  | _ => none
theorem g_wPair : Fn P 31 cf_wPair := fun args v h => by
  unfold cf_wPair at h; split at h
  · have h := Option.some.inj h; subst h; exact k_wPair 
  · cases h
theorem x_wPair : cf_wPair [] = some (.agg [I 0, I 10, I 3, I 10]) := rfl
theorem k_wSetup : FOk P 32 [] (eSu ⟨0, 0, 1⟩) := by
  refine c32.fok rfl (Cor.run (noC_good _) (noHx_good _) hm ?_)
  simp +contextual -implicitDefEqProofs (maxSteps := 2000000) only [bg_eq, a32, ruB, rh_no, Int.reduceLT, Int.reduceLE, Int.reduceAdd, Int.reduceSub, Int.reduceMul, Int.reduceNeg, Int.reduceToNat, Int.reduceEq, Int.reduceNe, Int.reduceTDiv, Int.reduceTMod, implies_true, putL, appN, appX, appC, Eng.Fi, reduceCtorEq, exists_eq_left', exists_eq_left, if_true, if_false, List.replicate, Nat.reduceAdd, Nat.reduceSub, Nat.reduceMul, Nat.reduceLeDiff, Nat.reduceLT, Nat.reduceEqDiff]
def cf_wSetup : List AV → Option AV
  | [] => some (.agg [I 0, I 0, I 1])
  | _ => none
theorem g_wSetup : Fn P 32 cf_wSetup := fun args v h => by
  unfold cf_wSetup at h; split at h
  · have h := Option.some.inj h; subst h; exact k_wSetup 
  · cases h
theorem x_wSetup : cf_wSetup [] = some (.agg [I 0, I 0, I 1]) := rfl
theorem k_wBox : FOk P 38 [] (eBx ⟨0, 2, 10, 12, 8, 10⟩) := by
  refine c38.fok rfl (Cor.run (noC_good _) (noHx_good _) hm ?_)
  simp +contextual -implicitDefEqProofs (maxSteps := 2000000) only [bg_eq, a38, ruB, rh_no, Int.reduceLT, Int.reduceLE, Int.reduceAdd, Int.reduceSub, Int.reduceMul, Int.reduceNeg, Int.reduceToNat, Int.reduceEq, Int.reduceNe, Int.reduceTDiv, Int.reduceTMod, implies_true, putL, appN, appX, appC, Eng.Fi, reduceCtorEq, exists_eq_left', exists_eq_left, if_true, if_false, List.replicate, Nat.reduceAdd, Nat.reduceSub, Nat.reduceMul, Nat.reduceLeDiff, Nat.reduceLT, Nat.reduceEqDiff]
def cf_wBox : List AV → Option AV
  | [] => some (.agg [I 0, I 2, I 10, I 12, I 8, I 10])
  | _ => none
theorem g_wBox : Fn P 38 cf_wBox := fun args v h => by
  unfold cf_wBox at h; split at h
  · have h := Option.some.inj h; subst h; exact k_wBox 
  · cases h
theorem x_wBox : cf_wBox [] = some (.agg [I 0, I 2, I 10, I 12, I 8, I 10]) := rfl
theorem k_wDrift : FOk P 39 [] (eBx ⟨-1, 1, 1, 2, 0, 1⟩) := by
  refine c39.fok rfl (Cor.run (noC_good _) (noHx_good _) hm ?_)
  simp +contextual -implicitDefEqProofs (maxSteps := 2000000) only [bg_eq, a39, ruB, rh_no, Int.reduceLT, Int.reduceLE, Int.reduceAdd, Int.reduceSub, Int.reduceMul, Int.reduceNeg, Int.reduceToNat, Int.reduceEq, Int.reduceNe, Int.reduceTDiv, Int.reduceTMod, implies_true, putL, appN, appX, appC, Eng.Fi, reduceCtorEq, exists_eq_left', exists_eq_left, if_true, if_false, List.replicate, Nat.reduceAdd, Nat.reduceSub, Nat.reduceMul, Nat.reduceLeDiff, Nat.reduceLT, Nat.reduceEqDiff]
def cf_wDrift : List AV → Option AV
  | [] => some (.agg [I (-1), I 1, I 1, I 2, I 0, I 1])
  | _ => none
theorem g_wDrift : Fn P 39 cf_wDrift := fun args v h => by
  unfold cf_wDrift at h; split at h
  · have h := Option.some.inj h; subst h; exact k_wDrift 
  · cases h
theorem x_wDrift : cf_wDrift [] = some (.agg [I (-1), I 1, I 1, I 2, I 0, I 1]) := rfl
theorem k_wCorridor : FOk P 40 [] (eCo ⟨-100, 100, 5, 50, 1, 0, 20⟩) := by
  refine c40.fok rfl (Cor.run (noC_good _) (noHx_good _) hm ?_)
  simp +contextual -implicitDefEqProofs (maxSteps := 2000000) only [bg_eq, a40, ruB, rh_no, Int.reduceLT, Int.reduceLE, Int.reduceAdd, Int.reduceSub, Int.reduceMul, Int.reduceNeg, Int.reduceToNat, Int.reduceEq, Int.reduceNe, Int.reduceTDiv, Int.reduceTMod, implies_true, putL, appN, appX, appC, Eng.Fi, reduceCtorEq, exists_eq_left', exists_eq_left, if_true, if_false, List.replicate, Nat.reduceAdd, Nat.reduceSub, Nat.reduceMul, Nat.reduceLeDiff, Nat.reduceLT, Nat.reduceEqDiff]
def cf_wCorridor : List AV → Option AV
  | [] => some (.agg [I (-100), I 100, I 5, I 50, I 1, I 0, I 20])
  | _ => none
theorem g_wCorridor : Fn P 40 cf_wCorridor := fun args v h => by
  unfold cf_wCorridor at h; split at h
  · have h := Option.some.inj h; subst h; exact k_wCorridor 
  · cases h
theorem x_wCorridor : cf_wCorridor [] = some (.agg [I (-100), I 100, I 5, I 50, I 1, I 0, I 20]) := rfl
theorem pgG_cases (d : Bx) : ∀ (r : List Vo) (i : Nat) (v : Vo), pgG d i v r = (0, 0) ∨ ∃ j : Nat, j < r.length ∧ pgG d i v r = (((i + 1 + j : Nat) : Int), 17)
  | [], i, v => .inl rfl
  | w :: r, i, v => by
    rw [pgG]
    split
    · rcases pgG_cases d r (i + 1) w with h | ⟨j, h1, h2⟩
      · exact .inl h
      · exact .inr ⟨j + 1, by simp; omega, by rw [h2]; congr 2; omega⟩
    · exact .inr ⟨0, by simp, rfl⟩
theorem pgG_step {d : Bx} : ∀ {r : List Vo} {i : Nat} {v : Vo}, pgG d i v r = (0, 0) → ∀ k, ∀ h : k + 1 < (v :: r).length, stP d (v :: r)[k] (v :: r)[k + 1]
  | [], i, v, _, k, h => by simp at h
  | w :: r, i, v, hp, k, h => by
    rw [pgG] at hp
    split at hp
    · rename_i hs
      cases k with
      | zero => exact hs
      | succ k => exact pgG_step hp k (by simpa using h)
    · simp at hp
/-- from vertex i of an accepted path k steps on -/
theorem ho_path {b d : Bx} {l : List Vo} (hb : bxR b) (hd : dfR d) (hs : ∀ k, ∀ h : k + 1 < l.length, stP d l[k] l[k + 1]) {i : Nat} (hi : i < l.length) (h0 : hoP b l[i]) : ∀ k : Nat, ∀ h : i + k < l.length, hoP (afV b d k) l[i + k]
  | 0, h => by
    have := af_zero (d := d) hb
    show hoP (afV b d 0) _
    rw [this]; exact h0
  | k + 1, h => by
    have h1 := ho_path hb hd hs hi h0 k (by omega)
    exact ho_step hd h1 (hs (i + k) (by omega))
theorem frG_two {b d : Bx} {c : Co} : ∀ (n : Nat) (t a : Int), frG b d c n t a = 2 → a = 2 ∧ ∀ k : Nat, k < n → ¬ toP (afV b d (t + k)) c
  | 0, t, a, h => ⟨h, fun k hk => by omega⟩
  | n + 1, t, a, h => by
    rw [frG] at h
    split at h
    · simp at h
    · obtain ⟨h1, h2⟩ := frG_two n _ _ h
      split at h1
      · simp at h1
      · rename_i hno
        refine ⟨h1, fun k hk => ?_⟩
        cases k with
        | zero => simpa using hno
        | succ k =>
          have := h2 k (by omega)
          have e : t + 1 + (k : Int) = t + ((k + 1 : Nat) : Int) := by omega
          rwa [e] at this
theorem free_no {m d : Bx} {c : Co} (hf : iF m d c = 2) {k : Int} (h1 : c.fr ≤ k) (h2 : k ≤ c.to) {v : Vo} (hv : hoP (afV m d k) v) : ¬ hoP (reG c) v := by
  obtain ⟨_, h⟩ := frG_two _ _ _ hf
  have h := h (k - c.fr).toNat (by omega)
  have e : c.fr + ((k - c.fr).toNat : Int) = k := by omega
  rw [e] at h
  intro hr
  apply h
  unfold hoP at hv hr
  unfold reG at hr
  unfold toP
  simp only at hr
  omega
end Wa
