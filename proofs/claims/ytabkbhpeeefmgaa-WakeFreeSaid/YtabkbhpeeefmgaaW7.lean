import Derived.Test.YtabkbhpeeefmgaaEngS9
import Derived.Test.YtabkbhpeeefmgaaW6
open Go Go.Proofs Eng
set_option maxRecDepth 100000
set_option linter.unusedSimpArgs false
set_option linter.unusedVariables false
def a27 : AC := .seq (.ops false [] [⟨some 1, .box 50 6 1 true, [.t 0], none⟩, ⟨some 2, .p (.mov), [.c (.int .i64 0)], none⟩]) (.seq (.seq (.ops false [] [⟨some 3, .p (.faddr 0), [.t 1], none⟩, ⟨some 4, .load 2 true, [.t 3], none⟩, ⟨some 5, .call 97, [.t 4, .c (.int .i64 (-1000000)), .c (.int .i64 1000000)], none⟩, ⟨some 6, .p (.notB), [.t 5], none⟩, ⟨some 7, .p (.mov), [.t 6], none⟩, ⟨some 8, .p (.faddr 2), [.t 1], some (7, false)⟩, ⟨some 9, .load 2 true, [.t 8], some (7, false)⟩, ⟨some 10, .call 97, [.t 9, .c (.int .i64 0), .c (.int .i64 1000000)], some (7, false)⟩, ⟨some 11, .p (.notB), [.t 10], some (7, false)⟩, ⟨some 12, .p (.pick), [.t 7, .c (.bool true), .t 11], none⟩, ⟨some 13, .p (.mov), [.t 12], none⟩, ⟨some 14, .p (.faddr 4), [.t 1], some (13, false)⟩, ⟨some 15, .load 2 true, [.t 14], some (13, false)⟩, ⟨some 16, .call 97, [.t 15, .c (.int .i64 0), .c (.int .i64 10000)], some (13, false)⟩, ⟨some 17, .p (.notB), [.t 16], some (13, false)⟩, ⟨some 18, .p (.pick), [.t 13, .c (.bool true), .t 17], none⟩]) (.cond (.t 18) (.seq (.ops false [] [⟨some 2, .p (.mov), [.c (.int .i64 2)], none⟩]) (.ret)) (.skip))) (.seq (.seq (.ops false [] [⟨some 19, .p (.faddr 0), [.t 1], none⟩, ⟨some 20, .p (.faddr 0), [.t 19], none⟩, ⟨some 21, .load 1 false, [.t 20], none⟩, ⟨some 22, .p (.faddr 0), [.t 1], none⟩, ⟨some 23, .p (.faddr 1), [.t 22], none⟩, ⟨some 24, .load 1 false, [.t 23], none⟩, ⟨some 25, .p (.binI .gtr), [.t 21, .t 24], none⟩, ⟨some 26, .p (.mov), [.t 25], none⟩, ⟨some 27, .p (.faddr 2), [.t 1], some (26, false)⟩, ⟨some 28, .p (.faddr 0), [.t 27], some (26, false)⟩, ⟨some 29, .load 1 false, [.t 28], some (26, false)⟩, ⟨some 30, .p (.faddr 2), [.t 1], some (26, false)⟩, ⟨some 31, .p (.faddr 1), [.t 30], some (26, false)⟩, ⟨some 32, .load 1 false, [.t 31], some (26, false)⟩, ⟨some 33, .p (.binI .gtr), [.t 29, .t 32], some (26, false)⟩, ⟨some 34, .p (.pick), [.t 26, .c (.bool true), .t 33], none⟩, ⟨some 35, .p (.mov), [.t 34], none⟩, ⟨some 36, .p (.faddr 4), [.t 1], some (35, false)⟩, ⟨some 37, .p (.faddr 0), [.t 36], some (35, false)⟩, ⟨some 38, .load 1 false, [.t 37], some (35, false)⟩, ⟨some 39, .p (.faddr 4), [.t 1], some (35, false)⟩, ⟨some 40, .p (.faddr 1), [.t 39], some (35, false)⟩, ⟨some 41, .load 1 false, [.t 40], some (35, false)⟩, ⟨some 42, .p (.binI .gtr), [.t 38, .t 41], some (35, false)⟩, ⟨some 43, .p (.pick), [.t 35, .c (.bool true), .t 42], none⟩]) (.cond (.t 43) (.seq (.ops false [] [⟨some 2, .p (.mov), [.c (.int .i64 9)], none⟩]) (.ret)) (.skip))) (.seq (.ops false [] [⟨some 2, .p (.mov), [.c (.int .i64 0)], none⟩]) (.ret))))
theorem c27 : FnC Try.prog 27 44 a27 [.tmp 2] := ⟨Try.call27, _, _, Try.func27, rfl, by kernel_rfl, by kernel_rfl, rfl⟩
def a28 : AC := .seq (.ops false [] [⟨some 2, .box 50 6 1 true, [.t 0], none⟩, ⟨some 3, .box 50 6 1 true, [.t 1], none⟩, ⟨some 4, .alloc 50 6 [.agg [.int .i64 0, .int .i64 0, .int .i64 0, .int .i64 0, .int .i64 0, .int .i64 0]], [], none⟩, ⟨some 5, .p (.mov), [.c (.bool false)], none⟩]) (.seq (.ops false [] [⟨some 13, .p (.faddr 0), [.t 2], none⟩, ⟨some 14, .load 2 true, [.t 13], none⟩, ⟨some 15, .p (.faddr 0), [.t 3], none⟩, ⟨some 16, .load 2 true, [.t 15], none⟩, ⟨some 17, .call 98, [.t 14, .t 16], none⟩, ⟨some 12, .p (.mov), [.t 17], none⟩, ⟨some 18, .p (.ext 0), [.t 12], none⟩, ⟨some 19, .p (.ext 1), [.t 12], none⟩, ⟨some 6, .alloc 48 2 [.agg [.int .i64 0, .int .i64 0]], [], none⟩, ⟨none, .store 2 true, [.t 6, .t 18], none⟩, ⟨some 7, .p (.mov), [.t 19], none⟩]) (.seq (.ops false [] [⟨some 21, .p (.faddr 2), [.t 2], none⟩, ⟨some 22, .load 2 true, [.t 21], none⟩, ⟨some 23, .p (.faddr 2), [.t 3], none⟩, ⟨some 24, .load 2 true, [.t 23], none⟩, ⟨some 25, .call 98, [.t 22, .t 24], none⟩, ⟨some 20, .p (.mov), [.t 25], none⟩, ⟨some 26, .p (.ext 0), [.t 20], none⟩, ⟨some 27, .p (.ext 1), [.t 20], none⟩, ⟨some 8, .alloc 48 2 [.agg [.int .i64 0, .int .i64 0]], [], none⟩, ⟨none, .store 2 true, [.t 8, .t 26], none⟩, ⟨some 9, .p (.mov), [.t 27], none⟩]) (.seq (.ops false [] [⟨some 29, .p (.faddr 4), [.t 2], none⟩, ⟨some 30, .load 2 true, [.t 29], none⟩, ⟨some 31, .p (.faddr 4), [.t 3], none⟩, ⟨some 32, .load 2 true, [.t 31], none⟩, ⟨some 33, .call 98, [.t 30, .t 32], none⟩, ⟨some 28, .p (.mov), [.t 33], none⟩, ⟨some 34, .p (.ext 0), [.t 28], none⟩, ⟨some 35, .p (.ext 1), [.t 28], none⟩, ⟨some 10, .alloc 48 2 [.agg [.int .i64 0, .int .i64 0]], [], none⟩, ⟨none, .store 2 true, [.t 10, .t 34], none⟩, ⟨some 11, .p (.mov), [.t 35], none⟩]) (.seq (.seq (.ops false [] [⟨some 36, .p (.mov), [.t 7], none⟩, ⟨some 37, .p (.notB), [.t 36], none⟩, ⟨some 38, .p (.mov), [.t 37], none⟩, ⟨some 39, .p (.mov), [.t 9], some (38, false)⟩, ⟨some 40, .p (.notB), [.t 39], some (38, false)⟩, ⟨some 41, .p (.pick), [.t 38, .c (.bool true), .t 40], none⟩, ⟨some 42, .p (.mov), [.t 41], none⟩, ⟨some 43, .p (.mov), [.t 11], some (42, false)⟩, ⟨some 44, .p (.notB), [.t 43], some (42, false)⟩, ⟨some 45, .p (.pick), [.t 42, .c (.bool true), .t 44], none⟩]) (.cond (.t 45) (.seq (.ops false [] [⟨some 46, .p (.build [.int .i64 0, .int .i64 0, .int .i64 0, .int .i64 0, .int .i64 0, .int .i64 0] []), [], none⟩, ⟨none, .store 6 true, [.t 4, .t 46], none⟩, ⟨some 5, .p (.mov), [.c (.bool false)], none⟩]) (.ret)) (.skip))) (.seq (.ops false [] [⟨some 47, .load 2 true, [.t 6], none⟩, ⟨some 48, .load 2 true, [.t 8], none⟩, ⟨some 49, .load 2 true, [.t 10], none⟩, ⟨some 50, .p (.build [.int .i64 0, .int .i64 0, .int .i64 0, .int .i64 0, .int .i64 0, .int .i64 0] [(0, 2), (2, 2), (4, 2)]), [.t 47, .t 48, .t 49], none⟩, ⟨none, .store 6 true, [.t 4, .t 50], none⟩, ⟨some 5, .p (.mov), [.c (.bool true)], none⟩]) (.ret))))))
theorem c28 : FnC Try.prog 28 51 a28 [.cell 4 6 true, .tmp 5] := ⟨Try.call28, _, _, Try.func28, rfl, by kernel_rfl, by kernel_rfl, rfl⟩
def a29 : AC := .seq (.ops false [] [⟨some 1, .box 52 6 1 true, [.t 0], none⟩, ⟨some 2, .p (.mov), [.c (.int .i64 0)], none⟩]) (.seq (.seq (.ops false [] [⟨some 3, .p (.faddr 0), [.t 1], none⟩, ⟨some 4, .load 2 true, [.t 3], none⟩, ⟨some 5, .call 97, [.t 4, .c (.int .i64 (-100)), .c (.int .i64 100)], none⟩, ⟨some 6, .p (.notB), [.t 5], none⟩, ⟨some 7, .p (.mov), [.t 6], none⟩, ⟨some 8, .p (.faddr 2), [.t 1], some (7, false)⟩, ⟨some 9, .load 2 true, [.t 8], some (7, false)⟩, ⟨some 10, .call 97, [.t 9, .c (.int .i64 0), .c (.int .i64 100)], some (7, false)⟩, ⟨some 11, .p (.notB), [.t 10], some (7, false)⟩, ⟨some 12, .p (.pick), [.t 7, .c (.bool true), .t 11], none⟩, ⟨some 13, .p (.mov), [.t 12], none⟩, ⟨some 14, .p (.faddr 4), [.t 1], some (13, false)⟩, ⟨some 15, .load 2 true, [.t 14], some (13, false)⟩, ⟨some 16, .call 97, [.t 15, .c (.int .i64 0), .c (.int .i64 100)], some (13, false)⟩, ⟨some 17, .p (.notB), [.t 16], some (13, false)⟩, ⟨some 18, .p (.pick), [.t 13, .c (.bool true), .t 17], none⟩]) (.cond (.t 18) (.seq (.ops false [] [⟨some 2, .p (.mov), [.c (.int .i64 2)], none⟩]) (.ret)) (.skip))) (.seq (.seq (.ops false [] [⟨some 19, .p (.faddr 0), [.t 1], none⟩, ⟨some 20, .p (.faddr 0), [.t 19], none⟩, ⟨some 21, .load 1 false, [.t 20], none⟩, ⟨some 22, .p (.faddr 0), [.t 1], none⟩, ⟨some 23, .p (.faddr 1), [.t 22], none⟩, ⟨some 24, .load 1 false, [.t 23], none⟩, ⟨some 25, .p (.binI .gtr), [.t 21, .t 24], none⟩, ⟨some 26, .p (.mov), [.t 25], none⟩, ⟨some 27, .p (.faddr 2), [.t 1], some (26, false)⟩, ⟨some 28, .p (.faddr 0), [.t 27], some (26, false)⟩, ⟨some 29, .load 1 false, [.t 28], some (26, false)⟩, ⟨some 30, .p (.faddr 2), [.t 1], some (26, false)⟩, ⟨some 31, .p (.faddr 1), [.t 30], some (26, false)⟩, ⟨some 32, .load 1 false, [.t 31], some (26, false)⟩, ⟨some 33, .p (.binI .gtr), [.t 29, .t 32], some (26, false)⟩, ⟨some 34, .p (.pick), [.t 26, .c (.bool true), .t 33], none⟩, ⟨some 35, .p (.mov), [.t 34], none⟩, ⟨some 36, .p (.faddr 4), [.t 1], some (35, false)⟩, ⟨some 37, .p (.faddr 0), [.t 36], some (35, false)⟩, ⟨some 38, .load 1 false, [.t 37], some (35, false)⟩, ⟨some 39, .p (.faddr 4), [.t 1], some (35, false)⟩, ⟨some 40, .p (.faddr 1), [.t 39], some (35, false)⟩, ⟨some 41, .load 1 false, [.t 40], some (35, false)⟩, ⟨some 42, .p (.binI .gtr), [.t 38, .t 41], some (35, false)⟩, ⟨some 43, .p (.pick), [.t 35, .c (.bool true), .t 42], none⟩]) (.cond (.t 43) (.seq (.ops false [] [⟨some 2, .p (.mov), [.c (.int .i64 9)], none⟩]) (.ret)) (.skip))) (.seq (.ops false [] [⟨some 2, .p (.mov), [.c (.int .i64 0)], none⟩]) (.ret))))
theorem c29 : FnC Try.prog 29 44 a29 [.tmp 2] := ⟨Try.call29, _, _, Try.func29, rfl, by kernel_rfl, by kernel_rfl, rfl⟩
def a30 : AC := .seq (.ops false [] [⟨some 2, .p (.mov), [.c (.int .i64 0)], none⟩]) (.seq (.seq (.ops false [] [⟨some 3, .p (.mov), [.t 0], none⟩, ⟨some 4, .call 20, [.t 3, .c (.int .i64 0), .c (.int .i64 1000)], none⟩, ⟨some 5, .p (.notB), [.t 4], none⟩]) (.cond (.t 5) (.seq (.ops false [] [⟨some 2, .p (.mov), [.c (.int .i64 2)], none⟩]) (.ret)) (.skip))) (.seq (.ops false [] [⟨some 2, .p (.mov), [.c (.int .i64 0)], none⟩]) (.ret)))
theorem c30 : FnC Try.prog 30 6 a30 [.tmp 2] := ⟨Try.call30, _, _, Try.func30, rfl, by kernel_rfl, by kernel_rfl, rfl⟩
def a68 : AC := .seq (.ops false [] [⟨some 2, .box 50 6 1 true, [.t 0], none⟩, ⟨some 3, .box 52 6 1 true, [.t 1], none⟩, ⟨some 4, .p (.mov), [.c (.int .i64 0)], none⟩]) (.seq (.seq (.ops false [] [⟨some 6, .load 6 true, [.t 2], none⟩, ⟨some 7, .call 27, [.t 6], none⟩, ⟨some 5, .p (.mov), [.t 7], none⟩]) (.seq (.ops false [] [⟨some 8, .p (.mov), [.t 5], none⟩, ⟨some 9, .p (.binI .neq), [.t 8, .c (.int .i64 0)], none⟩]) (.cond (.t 9) (.seq (.ops false [] [⟨some 10, .p (.mov), [.t 5], none⟩, ⟨some 4, .p (.mov), [.t 10], none⟩]) (.ret)) (.skip)))) (.seq (.ops false [] [⟨some 11, .load 6 true, [.t 3], none⟩, ⟨some 12, .call 29, [.t 11], none⟩, ⟨some 4, .p (.mov), [.t 12], none⟩]) (.ret)))
theorem c68 : FnC Try.prog 68 13 a68 [.tmp 4] := ⟨Try.call68, _, _, Try.func68, rfl, by kernel_rfl, by kernel_rfl, rfl⟩
def a129 : AC := .seq (.ops false [] [⟨some 1, .box 123 7 1 true, [.t 0], none⟩, ⟨some 2, .p (.mov), [.c (.int .i64 0)], none⟩]) (.seq (.seq (.ops false [] [⟨some 3, .p (.faddr 0), [.t 1], none⟩, ⟨some 4, .load 2 true, [.t 3], none⟩, ⟨some 5, .call 97, [.t 4, .c (.int .i64 (-1000000)), .c (.int .i64 1000000)], none⟩, ⟨some 6, .p (.notB), [.t 5], none⟩, ⟨some 7, .p (.mov), [.t 6], none⟩, ⟨some 8, .p (.faddr 2), [.t 1], some (7, false)⟩, ⟨some 9, .load 2 true, [.t 8], some (7, false)⟩, ⟨some 10, .call 97, [.t 9, .c (.int .i64 (-1000000)), .c (.int .i64 1000000)], some (7, false)⟩, ⟨some 11, .p (.notB), [.t 10], some (7, false)⟩, ⟨some 12, .p (.pick), [.t 7, .c (.bool true), .t 11], none⟩, ⟨some 13, .p (.mov), [.t 12], none⟩, ⟨some 14, .p (.faddr 4), [.t 1], some (13, false)⟩, ⟨some 15, .load 1 false, [.t 14], some (13, false)⟩, ⟨some 16, .call 20, [.t 15, .c (.int .i64 0), .c (.int .i64 10000)], some (13, false)⟩, ⟨some 17, .p (.notB), [.t 16], some (13, false)⟩, ⟨some 18, .p (.pick), [.t 13, .c (.bool true), .t 17], none⟩, ⟨some 19, .p (.mov), [.t 18], none⟩, ⟨some 20, .p (.faddr 5), [.t 1], some (19, false)⟩, ⟨some 21, .load 1 false, [.t 20], some (19, false)⟩, ⟨some 22, .call 30, [.t 21], some (19, false)⟩, ⟨some 23, .p (.binI .neq), [.t 22, .c (.int .i64 0)], some (19, false)⟩, ⟨some 24, .p (.pick), [.t 19, .c (.bool true), .t 23], none⟩, ⟨some 25, .p (.mov), [.t 24], none⟩, ⟨some 26, .p (.faddr 6), [.t 1], some (25, false)⟩, ⟨some 27, .load 1 false, [.t 26], some (25, false)⟩, ⟨some 28, .call 30, [.t 27], some (25, false)⟩, ⟨some 29, .p (.binI .neq), [.t 28, .c (.int .i64 0)], some (25, false)⟩, ⟨some 30, .p (.pick), [.t 25, .c (.bool true), .t 29], none⟩]) (.cond (.t 30) (.seq (.ops false [] [⟨some 2, .p (.mov), [.c (.int .i64 2)], none⟩]) (.ret)) (.skip))) (.seq (.seq (.ops false [] [⟨some 31, .p (.faddr 0), [.t 1], none⟩, ⟨some 32, .p (.faddr 0), [.t 31], none⟩, ⟨some 33, .load 1 false, [.t 32], none⟩, ⟨some 34, .p (.faddr 0), [.t 1], none⟩, ⟨some 35, .p (.faddr 1), [.t 34], none⟩, ⟨some 36, .load 1 false, [.t 35], none⟩, ⟨some 37, .p (.binI .gtr), [.t 33, .t 36], none⟩, ⟨some 38, .p (.mov), [.t 37], none⟩, ⟨some 39, .p (.faddr 2), [.t 1], some (38, false)⟩, ⟨some 40, .p (.faddr 0), [.t 39], some (38, false)⟩, ⟨some 41, .load 1 false, [.t 40], some (38, false)⟩, ⟨some 42, .p (.faddr 2), [.t 1], some (38, false)⟩, ⟨some 43, .p (.faddr 1), [.t 42], some (38, false)⟩, ⟨some 44, .load 1 false, [.t 43], some (38, false)⟩, ⟨some 45, .p (.binI .gtr), [.t 41, .t 44], some (38, false)⟩, ⟨some 46, .p (.pick), [.t 38, .c (.bool true), .t 45], none⟩, ⟨some 47, .p (.mov), [.t 46], none⟩, ⟨some 48, .p (.faddr 5), [.t 1], some (47, false)⟩, ⟨some 49, .load 1 false, [.t 48], some (47, false)⟩, ⟨some 50, .p (.faddr 6), [.t 1], some (47, false)⟩, ⟨some 51, .load 1 false, [.t 50], some (47, false)⟩, ⟨some 52, .p (.binI .gtr), [.t 49, .t 51], some (47, false)⟩, ⟨some 53, .p (.pick), [.t 47, .c (.bool true), .t 52], none⟩]) (.cond (.t 53) (.seq (.ops false [] [⟨some 2, .p (.mov), [.c (.int .i64 9)], none⟩]) (.ret)) (.skip))) (.seq (.ops false [] [⟨some 2, .p (.mov), [.c (.int .i64 0)], none⟩]) (.ret))))
theorem c129 : FnC Try.prog 129 54 a129 [.tmp 2] := ⟨Try.call129, _, _, Try.func129, rfl, by kernel_rfl, by kernel_rfl, rfl⟩
def a130 : AC := .seq (.ops false [] [⟨some 1, .box 123 7 1 true, [.t 0], none⟩, ⟨some 2, .alloc 50 6 [.agg [.int .i64 0, .int .i64 0, .int .i64 0, .int .i64 0, .int .i64 0, .int .i64 0]], [], none⟩]) (.seq (.ops false [] [⟨some 3, .p (.faddr 0), [.t 1], none⟩, ⟨some 4, .load 2 true, [.t 3], none⟩, ⟨some 5, .p (.faddr 2), [.t 1], none⟩, ⟨some 6, .load 2 true, [.t 5], none⟩, ⟨some 7, .p (.faddr 4), [.t 1], none⟩, ⟨some 8, .load 1 false, [.t 7], none⟩, ⟨some 9, .p (.build [.int .i64 0, .int .i64 0] [(0, 1), (1, 1)]), [.t 8, .c (.int .i64 1099511627776)], none⟩, ⟨some 10, .p (.build [.int .i64 0, .int .i64 0, .int .i64 0, .int .i64 0, .int .i64 0, .int .i64 0] [(0, 2), (2, 2), (4, 2)]), [.t 4, .t 6, .t 9], none⟩, ⟨none, .store 6 true, [.t 2, .t 10], none⟩]) (.ret))
theorem c130 : FnC Try.prog 130 11 a130 [.cell 2 6 true] := ⟨Try.call130, _, _, Try.func130, rfl, by kernel_rfl, by kernel_rfl, rfl⟩
namespace Wa
theorem k_rBoxErr (b : Bx) : FOk P 27 [eBx b] (I (bxE b)) := by
  unfold bxE
  by_cases h0 : bxR b
  · have h0' : inR (-1000000) 1000000 b.yl b.yh ∧ inR 0 1000000 b.zl b.zh ∧ inR 0 10000 b.sl b.sh := ⟨h0.1.1, h0.1.2, h0.2⟩
    have q1 := eq_true h0'.1
    have q2 := eq_true h0'.2.1
    have q3 := eq_true h0'.2.2
    rw [unl_t 2 h0]
    by_cases c1 : b.yl ≤ b.yh
    · rw [unl_t 9 c1]
      have c1' : (b.yh < b.yl) = False := eq_false (by omega)
      by_cases c2 : b.zl ≤ b.zh
      · rw [unl_t 9 c2]
        have c2' : (b.zh < b.zl) = False := eq_false (by omega)
        by_cases c3 : b.sl ≤ b.sh
        · rw [unl_t 9 c3]
          have c3' : (b.sh < b.sl) = False := eq_false (by omega)
          refine c27.fok rfl (Cor.run (addC_good g_rwithin2 (noC_good _)) (noHx_good _) hm ?_)
          simp +contextual -implicitDefEqProofs (maxSteps := 2000000) only [bg_eq, a27, x_rwithin2, q1, q2, q3, c1', c2', c3', not_true_eq_false, firstE, ruB, rh_no, Int.reduceLT, Int.reduceLE, Int.reduceAdd, Int.reduceSub, Int.reduceMul, Int.reduceNeg, Int.reduceToNat, Int.reduceEq, Int.reduceNe, Int.reduceTDiv, Int.reduceTMod, implies_true, putL, appN, appX, appC, Eng.Fi, reduceCtorEq, exists_eq_left', exists_eq_left, if_true, if_false, List.replicate, Nat.reduceAdd, Nat.reduceSub, Nat.reduceMul, Nat.reduceLeDiff, Nat.reduceLT, Nat.reduceEqDiff]
        · rw [unl_f 9 c3]
          have c3' : (b.sh < b.sl) = True := eq_true (by omega)
          refine c27.fok rfl (Cor.run (addC_good g_rwithin2 (noC_good _)) (noHx_good _) hm ?_)
          simp +contextual -implicitDefEqProofs (maxSteps := 2000000) only [bg_eq, a27, x_rwithin2, q1, q2, q3, c1', c2', c3', not_true_eq_false, firstE, ruB, rh_no, Int.reduceLT, Int.reduceLE, Int.reduceAdd, Int.reduceSub, Int.reduceMul, Int.reduceNeg, Int.reduceToNat, Int.reduceEq, Int.reduceNe, Int.reduceTDiv, Int.reduceTMod, implies_true, putL, appN, appX, appC, Eng.Fi, reduceCtorEq, exists_eq_left', exists_eq_left, if_true, if_false, List.replicate, Nat.reduceAdd, Nat.reduceSub, Nat.reduceMul, Nat.reduceLeDiff, Nat.reduceLT, Nat.reduceEqDiff]
      · rw [unl_f 9 c2]
        have c2' : (b.zh < b.zl) = True := eq_true (by omega)
        refine c27.fok rfl (Cor.run (addC_good g_rwithin2 (noC_good _)) (noHx_good _) hm ?_)
        simp +contextual -implicitDefEqProofs (maxSteps := 2000000) only [bg_eq, a27, x_rwithin2, q1, q2, q3, c1', c2', not_true_eq_false, firstE, ruB, rh_no, Int.reduceLT, Int.reduceLE, Int.reduceAdd, Int.reduceSub, Int.reduceMul, Int.reduceNeg, Int.reduceToNat, Int.reduceEq, Int.reduceNe, Int.reduceTDiv, Int.reduceTMod, implies_true, putL, appN, appX, appC, Eng.Fi, reduceCtorEq, exists_eq_left', exists_eq_left, if_true, if_false, List.replicate, Nat.reduceAdd, Nat.reduceSub, Nat.reduceMul, Nat.reduceLeDiff, Nat.reduceLT, Nat.reduceEqDiff]
    · rw [unl_f 9 c1]
      have c1' : (b.yh < b.yl) = True := eq_true (by omega)
      refine c27.fok rfl (Cor.run (addC_good g_rwithin2 (noC_good _)) (noHx_good _) hm ?_)
      simp +contextual -implicitDefEqProofs (maxSteps := 2000000) only [bg_eq, a27, x_rwithin2, q1, q2, q3, c1', not_true_eq_false, firstE, ruB, rh_no, Int.reduceLT, Int.reduceLE, Int.reduceAdd, Int.reduceSub, Int.reduceMul, Int.reduceNeg, Int.reduceToNat, Int.reduceEq, Int.reduceNe, Int.reduceTDiv, Int.reduceTMod, implies_true, putL, appN, appX, appC, Eng.Fi, reduceCtorEq, exists_eq_left', exists_eq_left, if_true, if_false, List.replicate, Nat.reduceAdd, Nat.reduceSub, Nat.reduceMul, Nat.reduceLeDiff, Nat.reduceLT, Nat.reduceEqDiff]
  · rw [unl_f 2 h0]
    have hf : firstE [2, unl (b.yl ≤ b.yh) 9, unl (b.zl ≤ b.zh) 9, unl (b.sl ≤ b.sh) 9] = 2 := rfl
    rw [hf]
    refine c27.fok rfl (Cor.run (addC_good g_rwithin2 (noC_good _)) (noHx_good _) hm ?_)
    by_cases q1 : inR (-1000000) 1000000 b.yl b.yh
    · have q1' := eq_true q1
      by_cases q2 : inR 0 1000000 b.zl b.zh
      · have q2' := eq_true q2
        have q3' : inR 0 10000 b.sl b.sh = False := eq_false fun q3 => h0 ⟨⟨q1, q2⟩, q3⟩
        simp +contextual -implicitDefEqProofs (maxSteps := 2000000) only [bg_eq, a27, x_rwithin2, q1', q2', q3', not_true_eq_false, not_false_eq_true, ruB, rh_no, Int.reduceLT, Int.reduceLE, Int.reduceAdd, Int.reduceSub, Int.reduceMul, Int.reduceNeg, Int.reduceToNat, Int.reduceEq, Int.reduceNe, Int.reduceTDiv, Int.reduceTMod, implies_true, putL, appN, appX, appC, Eng.Fi, reduceCtorEq, exists_eq_left', exists_eq_left, if_true, if_false, List.replicate, Nat.reduceAdd, Nat.reduceSub, Nat.reduceMul, Nat.reduceLeDiff, Nat.reduceLT, Nat.reduceEqDiff]
      · have q2' := eq_false q2
        simp +contextual -implicitDefEqProofs (maxSteps := 2000000) only [bg_eq, a27, x_rwithin2, q1', q2', not_true_eq_false, not_false_eq_true, ruB, rh_no, Int.reduceLT, Int.reduceLE, Int.reduceAdd, Int.reduceSub, Int.reduceMul, Int.reduceNeg, Int.reduceToNat, Int.reduceEq, Int.reduceNe, Int.reduceTDiv, Int.reduceTMod, implies_true, putL, appN, appX, appC, Eng.Fi, reduceCtorEq, exists_eq_left', exists_eq_left, if_true, if_false, List.replicate, Nat.reduceAdd, Nat.reduceSub, Nat.reduceMul, Nat.reduceLeDiff, Nat.reduceLT, Nat.reduceEqDiff]
    · have q1' := eq_false q1
      simp +contextual -implicitDefEqProofs (maxSteps := 2000000) only [bg_eq, a27, x_rwithin2, q1', not_true_eq_false, not_false_eq_true, ruB, rh_no, Int.reduceLT, Int.reduceLE, Int.reduceAdd, Int.reduceSub, Int.reduceMul, Int.reduceNeg, Int.reduceToNat, Int.reduceEq, Int.reduceNe, Int.reduceTDiv, Int.reduceTMod, implies_true, putL, appN, appX, appC, Eng.Fi, reduceCtorEq, exists_eq_left', exists_eq_left, if_true, if_false, List.replicate, Nat.reduceAdd, Nat.reduceSub, Nat.reduceMul, Nat.reduceLeDiff, Nat.reduceLT, Nat.reduceEqDiff]
def cf_rBoxErr : List AV → Option AV
  | [.agg [.int .i64 b_yl, .int .i64 b_yh, .int .i64 b_zl, .int .i64 b_zh, .int .i64 b_sl, .int .i64 b_sh]] => some (I (bxE (⟨b_yl, b_yh, b_zl, b_zh, b_sl, b_sh⟩ : Bx)))
  | _ => none
theorem g_rBoxErr : Fn P 27 cf_rBoxErr := fun args v hh => by
  unfold cf_rBoxErr at hh; split at hh
  · have hk := Option.some.inj hh; subst hk; exact k_rBoxErr ⟨_, _, _, _, _, _⟩
  · cases hh
theorem x_rBoxErr (b : Bx) : cf_rBoxErr [.agg [I b.yl, I b.yh, I b.zl, I b.zh, I b.sl, I b.sh]] = some (I (bxE b)) := by
  rfl
theorem k_rDriftErr (b : Bx) : FOk P 29 [eBx b] (I (dfE b)) := by
  unfold dfE
  by_cases h0 : dfR b
  · have h0' : inR (-100) 100 b.yl b.yh ∧ inR 0 100 b.zl b.zh ∧ inR 0 100 b.sl b.sh := ⟨h0.1.1, h0.1.2, h0.2⟩
    have q1 := eq_true h0'.1
    have q2 := eq_true h0'.2.1
    have q3 := eq_true h0'.2.2
    rw [unl_t 2 h0]
    by_cases c1 : b.yl ≤ b.yh
    · rw [unl_t 9 c1]
      have c1' : (b.yh < b.yl) = False := eq_false (by omega)
      by_cases c2 : b.zl ≤ b.zh
      · rw [unl_t 9 c2]
        have c2' : (b.zh < b.zl) = False := eq_false (by omega)
        by_cases c3 : b.sl ≤ b.sh
        · rw [unl_t 9 c3]
          have c3' : (b.sh < b.sl) = False := eq_false (by omega)
          refine c29.fok rfl (Cor.run (addC_good g_rwithin2 (noC_good _)) (noHx_good _) hm ?_)
          simp +contextual -implicitDefEqProofs (maxSteps := 2000000) only [bg_eq, a29, x_rwithin2, q1, q2, q3, c1', c2', c3', not_true_eq_false, firstE, ruB, rh_no, Int.reduceLT, Int.reduceLE, Int.reduceAdd, Int.reduceSub, Int.reduceMul, Int.reduceNeg, Int.reduceToNat, Int.reduceEq, Int.reduceNe, Int.reduceTDiv, Int.reduceTMod, implies_true, putL, appN, appX, appC, Eng.Fi, reduceCtorEq, exists_eq_left', exists_eq_left, if_true, if_false, List.replicate, Nat.reduceAdd, Nat.reduceSub, Nat.reduceMul, Nat.reduceLeDiff, Nat.reduceLT, Nat.reduceEqDiff]
        · rw [unl_f 9 c3]
          have c3' : (b.sh < b.sl) = True := eq_true (by omega)
          refine c29.fok rfl (Cor.run (addC_good g_rwithin2 (noC_good _)) (noHx_good _) hm ?_)
          simp +contextual -implicitDefEqProofs (maxSteps := 2000000) only [bg_eq, a29, x_rwithin2, q1, q2, q3, c1', c2', c3', not_true_eq_false, firstE, ruB, rh_no, Int.reduceLT, Int.reduceLE, Int.reduceAdd, Int.reduceSub, Int.reduceMul, Int.reduceNeg, Int.reduceToNat, Int.reduceEq, Int.reduceNe, Int.reduceTDiv, Int.reduceTMod, implies_true, putL, appN, appX, appC, Eng.Fi, reduceCtorEq, exists_eq_left', exists_eq_left, if_true, if_false, List.replicate, Nat.reduceAdd, Nat.reduceSub, Nat.reduceMul, Nat.reduceLeDiff, Nat.reduceLT, Nat.reduceEqDiff]
      · rw [unl_f 9 c2]
        have c2' : (b.zh < b.zl) = True := eq_true (by omega)
        refine c29.fok rfl (Cor.run (addC_good g_rwithin2 (noC_good _)) (noHx_good _) hm ?_)
        simp +contextual -implicitDefEqProofs (maxSteps := 2000000) only [bg_eq, a29, x_rwithin2, q1, q2, q3, c1', c2', not_true_eq_false, firstE, ruB, rh_no, Int.reduceLT, Int.reduceLE, Int.reduceAdd, Int.reduceSub, Int.reduceMul, Int.reduceNeg, Int.reduceToNat, Int.reduceEq, Int.reduceNe, Int.reduceTDiv, Int.reduceTMod, implies_true, putL, appN, appX, appC, Eng.Fi, reduceCtorEq, exists_eq_left', exists_eq_left, if_true, if_false, List.replicate, Nat.reduceAdd, Nat.reduceSub, Nat.reduceMul, Nat.reduceLeDiff, Nat.reduceLT, Nat.reduceEqDiff]
    · rw [unl_f 9 c1]
      have c1' : (b.yh < b.yl) = True := eq_true (by omega)
      refine c29.fok rfl (Cor.run (addC_good g_rwithin2 (noC_good _)) (noHx_good _) hm ?_)
      simp +contextual -implicitDefEqProofs (maxSteps := 2000000) only [bg_eq, a29, x_rwithin2, q1, q2, q3, c1', not_true_eq_false, firstE, ruB, rh_no, Int.reduceLT, Int.reduceLE, Int.reduceAdd, Int.reduceSub, Int.reduceMul, Int.reduceNeg, Int.reduceToNat, Int.reduceEq, Int.reduceNe, Int.reduceTDiv, Int.reduceTMod, implies_true, putL, appN, appX, appC, Eng.Fi, reduceCtorEq, exists_eq_left', exists_eq_left, if_true, if_false, List.replicate, Nat.reduceAdd, Nat.reduceSub, Nat.reduceMul, Nat.reduceLeDiff, Nat.reduceLT, Nat.reduceEqDiff]
  · rw [unl_f 2 h0]
    have hf : firstE [2, unl (b.yl ≤ b.yh) 9, unl (b.zl ≤ b.zh) 9, unl (b.sl ≤ b.sh) 9] = 2 := rfl
    rw [hf]
    refine c29.fok rfl (Cor.run (addC_good g_rwithin2 (noC_good _)) (noHx_good _) hm ?_)
    by_cases q1 : inR (-100) 100 b.yl b.yh
    · have q1' := eq_true q1
      by_cases q2 : inR 0 100 b.zl b.zh
      · have q2' := eq_true q2
        have q3' : inR 0 100 b.sl b.sh = False := eq_false fun q3 => h0 ⟨⟨q1, q2⟩, q3⟩
        simp +contextual -implicitDefEqProofs (maxSteps := 2000000) only [bg_eq, a29, x_rwithin2, q1', q2', q3', not_true_eq_false, not_false_eq_true, ruB, rh_no, Int.reduceLT, Int.reduceLE, Int.reduceAdd, Int.reduceSub, Int.reduceMul, Int.reduceNeg, Int.reduceToNat, Int.reduceEq, Int.reduceNe, Int.reduceTDiv, Int.reduceTMod, implies_true, putL, appN, appX, appC, Eng.Fi, reduceCtorEq, exists_eq_left', exists_eq_left, if_true, if_false, List.replicate, Nat.reduceAdd, Nat.reduceSub, Nat.reduceMul, Nat.reduceLeDiff, Nat.reduceLT, Nat.reduceEqDiff]
      · have q2' := eq_false q2
        simp +contextual -implicitDefEqProofs (maxSteps := 2000000) only [bg_eq, a29, x_rwithin2, q1', q2', not_true_eq_false, not_false_eq_true, ruB, rh_no, Int.reduceLT, Int.reduceLE, Int.reduceAdd, Int.reduceSub, Int.reduceMul, Int.reduceNeg, Int.reduceToNat, Int.reduceEq, Int.reduceNe, Int.reduceTDiv, Int.reduceTMod, implies_true, putL, appN, appX, appC, Eng.Fi, reduceCtorEq, exists_eq_left', exists_eq_left, if_true, if_false, List.replicate, Nat.reduceAdd, Nat.reduceSub, Nat.reduceMul, Nat.reduceLeDiff, Nat.reduceLT, Nat.reduceEqDiff]
    · have q1' := eq_false q1
      simp +contextual -implicitDefEqProofs (maxSteps := 2000000) only [bg_eq, a29, x_rwithin2, q1', not_true_eq_false, not_false_eq_true, ruB, rh_no, Int.reduceLT, Int.reduceLE, Int.reduceAdd, Int.reduceSub, Int.reduceMul, Int.reduceNeg, Int.reduceToNat, Int.reduceEq, Int.reduceNe, Int.reduceTDiv, Int.reduceTMod, implies_true, putL, appN, appX, appC, Eng.Fi, reduceCtorEq, exists_eq_left', exists_eq_left, if_true, if_false, List.replicate, Nat.reduceAdd, Nat.reduceSub, Nat.reduceMul, Nat.reduceLeDiff, Nat.reduceLT, Nat.reduceEqDiff]
def cf_rDriftErr : List AV → Option AV
  | [.agg [.int .i64 b_yl, .int .i64 b_yh, .int .i64 b_zl, .int .i64 b_zh, .int .i64 b_sl, .int .i64 b_sh]] => some (I (dfE (⟨b_yl, b_yh, b_zl, b_zh, b_sl, b_sh⟩ : Bx)))
  | _ => none
theorem g_rDriftErr : Fn P 29 cf_rDriftErr := fun args v hh => by
  unfold cf_rDriftErr at hh; split at hh
  · have hk := Option.some.inj hh; subst hk; exact k_rDriftErr ⟨_, _, _, _, _, _⟩
  · cases hh
theorem x_rDriftErr (b : Bx) : cf_rDriftErr [.agg [I b.yl, I b.yh, I b.zl, I b.zh, I b.sl, I b.sh]] = some (I (dfE b)) := by
  rfl
def tkE (n : Int) : Int := unl (tiR n) 2
theorem tkE_nz (n : Int) : (tkE n = 0) = tiR n := by
  unfold tkE unl
  split <;> simp [*]
theorem k_rTicksErr (n : Int) : FOk P 30 [I n] (I (tkE n)) := by
  unfold tkE
  by_cases h : tiR n
  · have h' := eq_true h
    rw [unl_t 2 h]
    unfold tiR at h'
    refine c30.fok rfl (Cor.run (addC_good g_Within (noC_good _)) (noHx_good _) hm ?_)
    simp +contextual -implicitDefEqProofs (maxSteps := 2000000) only [bg_eq, a30, x_Within, h', not_true_eq_false, ruB, rh_no, Int.reduceLT, Int.reduceLE, Int.reduceAdd, Int.reduceSub, Int.reduceMul, Int.reduceNeg, Int.reduceToNat, Int.reduceEq, Int.reduceNe, Int.reduceTDiv, Int.reduceTMod, implies_true, putL, appN, appX, appC, Eng.Fi, reduceCtorEq, exists_eq_left', exists_eq_left, if_true, if_false, List.replicate, Nat.reduceAdd, Nat.reduceSub, Nat.reduceMul, Nat.reduceLeDiff, Nat.reduceLT, Nat.reduceEqDiff]
  · have h' := eq_false h
    rw [unl_f 2 h]
    unfold tiR at h'
    refine c30.fok rfl (Cor.run (addC_good g_Within (noC_good _)) (noHx_good _) hm ?_)
    simp +contextual -implicitDefEqProofs (maxSteps := 2000000) only [bg_eq, a30, x_Within, h', not_false_eq_true, ruB, rh_no, Int.reduceLT, Int.reduceLE, Int.reduceAdd, Int.reduceSub, Int.reduceMul, Int.reduceNeg, Int.reduceToNat, Int.reduceEq, Int.reduceNe, Int.reduceTDiv, Int.reduceTMod, implies_true, putL, appN, appX, appC, Eng.Fi, reduceCtorEq, exists_eq_left', exists_eq_left, if_true, if_false, List.replicate, Nat.reduceAdd, Nat.reduceSub, Nat.reduceMul, Nat.reduceLeDiff, Nat.reduceLT, Nat.reduceEqDiff]
def cf_rTicksErr : List AV → Option AV
  | [.int .i64 n] => some (.int .i64 (tkE n))
  | _ => none
theorem g_rTicksErr : Fn P 30 cf_rTicksErr := fun args v h => by
  unfold cf_rTicksErr at h; split at h
  · have h := Option.some.inj h; subst h; exact k_rTicksErr _
  · cases h
theorem x_rTicksErr (n : Int) : cf_rTicksErr [.int .i64 n] = some (.int .i64 (tkE n)) := rfl
theorem k_rCorridorErr (c : Co) : FOk P 129 [eCo c] (I (coE c)) := by
  have t1 : (¬ tkE c.fr = 0) = (¬ tiR c.fr) := by rw [tkE_nz]
  have t2 : (¬ tkE c.to = 0) = (¬ tiR c.to) := by rw [tkE_nz]
  unfold coE
  by_cases h0 : coR c
  · have h0' := h0
    unfold coR at h0'
    have q1 := eq_true h0'.1.1.1.1
    have q2 := eq_true h0'.1.1.1.2
    have q3 := eq_true h0'.1.1.2
    have q4 := eq_true h0'.1.2
    have q5 := eq_true h0'.2
    rw [unl_t 2 h0]
    by_cases c1 : c.yl ≤ c.yh
    · rw [unl_t 9 c1]
      have c1' : (c.yh < c.yl) = False := eq_false (by omega)
      by_cases c2 : c.zl ≤ c.zh
      · rw [unl_t 9 c2]
        have c2' : (c.zh < c.zl) = False := eq_false (by omega)
        by_cases c3 : c.fr ≤ c.to
        · rw [unl_t 9 c3]
          have c3' : (c.to < c.fr) = False := eq_false (by omega)
          refine c129.fok rfl (Cor.run (addC_good g_rTicksErr (addC_good g_Within (addC_good g_rwithin2 (noC_good _)))) (noHx_good _) hm ?_)
          simp +contextual -implicitDefEqProofs (maxSteps := 2000000) only [bg_eq, a129, x_rwithin2, x_Within, x_rTicksErr, t1, t2, q1, q2, q3, q4, q5, c1', c2', c3', not_true_eq_false, firstE, ruB, rh_no, Int.reduceLT, Int.reduceLE, Int.reduceAdd, Int.reduceSub, Int.reduceMul, Int.reduceNeg, Int.reduceToNat, Int.reduceEq, Int.reduceNe, Int.reduceTDiv, Int.reduceTMod, implies_true, putL, appN, appX, appC, Eng.Fi, reduceCtorEq, exists_eq_left', exists_eq_left, if_true, if_false, List.replicate, Nat.reduceAdd, Nat.reduceSub, Nat.reduceMul, Nat.reduceLeDiff, Nat.reduceLT, Nat.reduceEqDiff]
        · rw [unl_f 9 c3]
          have c3' : (c.to < c.fr) = True := eq_true (by omega)
          refine c129.fok rfl (Cor.run (addC_good g_rTicksErr (addC_good g_Within (addC_good g_rwithin2 (noC_good _)))) (noHx_good _) hm ?_)
          simp +contextual -implicitDefEqProofs (maxSteps := 2000000) only [bg_eq, a129, x_rwithin2, x_Within, x_rTicksErr, t1, t2, q1, q2, q3, q4, q5, c1', c2', c3', not_true_eq_false, firstE, ruB, rh_no, Int.reduceLT, Int.reduceLE, Int.reduceAdd, Int.reduceSub, Int.reduceMul, Int.reduceNeg, Int.reduceToNat, Int.reduceEq, Int.reduceNe, Int.reduceTDiv, Int.reduceTMod, implies_true, putL, appN, appX, appC, Eng.Fi, reduceCtorEq, exists_eq_left', exists_eq_left, if_true, if_false, List.replicate, Nat.reduceAdd, Nat.reduceSub, Nat.reduceMul, Nat.reduceLeDiff, Nat.reduceLT, Nat.reduceEqDiff]
      · rw [unl_f 9 c2]
        have c2' : (c.zh < c.zl) = True := eq_true (by omega)
        refine c129.fok rfl (Cor.run (addC_good g_rTicksErr (addC_good g_Within (addC_good g_rwithin2 (noC_good _)))) (noHx_good _) hm ?_)
        simp +contextual -implicitDefEqProofs (maxSteps := 2000000) only [bg_eq, a129, x_rwithin2, x_Within, x_rTicksErr, t1, t2, q1, q2, q3, q4, q5, c1', c2', not_true_eq_false, firstE, ruB, rh_no, Int.reduceLT, Int.reduceLE, Int.reduceAdd, Int.reduceSub, Int.reduceMul, Int.reduceNeg, Int.reduceToNat, Int.reduceEq, Int.reduceNe, Int.reduceTDiv, Int.reduceTMod, implies_true, putL, appN, appX, appC, Eng.Fi, reduceCtorEq, exists_eq_left', exists_eq_left, if_true, if_false, List.replicate, Nat.reduceAdd, Nat.reduceSub, Nat.reduceMul, Nat.reduceLeDiff, Nat.reduceLT, Nat.reduceEqDiff]
    · rw [unl_f 9 c1]
      have c1' : (c.yh < c.yl) = True := eq_true (by omega)
      refine c129.fok rfl (Cor.run (addC_good g_rTicksErr (addC_good g_Within (addC_good g_rwithin2 (noC_good _)))) (noHx_good _) hm ?_)
      simp +contextual -implicitDefEqProofs (maxSteps := 2000000) only [bg_eq, a129, x_rwithin2, x_Within, x_rTicksErr, t1, t2, q1, q2, q3, q4, q5, c1', not_true_eq_false, firstE, ruB, rh_no, Int.reduceLT, Int.reduceLE, Int.reduceAdd, Int.reduceSub, Int.reduceMul, Int.reduceNeg, Int.reduceToNat, Int.reduceEq, Int.reduceNe, Int.reduceTDiv, Int.reduceTMod, implies_true, putL, appN, appX, appC, Eng.Fi, reduceCtorEq, exists_eq_left', exists_eq_left, if_true, if_false, List.replicate, Nat.reduceAdd, Nat.reduceSub, Nat.reduceMul, Nat.reduceLeDiff, Nat.reduceLT, Nat.reduceEqDiff]
  · rw [unl_f 2 h0]
    have hf : firstE [2, unl (c.yl ≤ c.yh) 9, unl (c.zl ≤ c.zh) 9, unl (c.fr ≤ c.to) 9] = 2 := rfl
    rw [hf]
    refine c129.fok rfl (Cor.run (addC_good g_rTicksErr (addC_good g_Within (addC_good g_rwithin2 (noC_good _)))) (noHx_good _) hm ?_)
    by_cases q1 : inR (-1000000) 1000000 c.yl c.yh
    · have q1' := eq_true q1
      by_cases q2 : inR (-1000000) 1000000 c.zl c.zh
      · have q2' := eq_true q2
        by_cases q3 : 0 ≤ c.lim ∧ c.lim ≤ 10000
        · have q3' := eq_true q3
          by_cases q4 : tiR c.fr
          · have q4' := eq_true q4
            have q5' : tiR c.to = False := eq_false fun q5 => h0 ⟨⟨⟨⟨q1, q2⟩, q3⟩, q4⟩, q5⟩
            simp +contextual -implicitDefEqProofs (maxSteps := 2000000) only [bg_eq, a129, x_rwithin2, x_Within, x_rTicksErr, t1, t2, q1', q2', q3', q4', q5', not_true_eq_false, not_false_eq_true, ruB, rh_no, Int.reduceLT, Int.reduceLE, Int.reduceAdd, Int.reduceSub, Int.reduceMul, Int.reduceNeg, Int.reduceToNat, Int.reduceEq, Int.reduceNe, Int.reduceTDiv, Int.reduceTMod, implies_true, putL, appN, appX, appC, Eng.Fi, reduceCtorEq, exists_eq_left', exists_eq_left, if_true, if_false, List.replicate, Nat.reduceAdd, Nat.reduceSub, Nat.reduceMul, Nat.reduceLeDiff, Nat.reduceLT, Nat.reduceEqDiff]
          · have q4' := eq_false q4
            simp +contextual -implicitDefEqProofs (maxSteps := 2000000) only [bg_eq, a129, x_rwithin2, x_Within, x_rTicksErr, t1, t2, q1', q2', q3', q4', not_true_eq_false, not_false_eq_true, ruB, rh_no, Int.reduceLT, Int.reduceLE, Int.reduceAdd, Int.reduceSub, Int.reduceMul, Int.reduceNeg, Int.reduceToNat, Int.reduceEq, Int.reduceNe, Int.reduceTDiv, Int.reduceTMod, implies_true, putL, appN, appX, appC, Eng.Fi, reduceCtorEq, exists_eq_left', exists_eq_left, if_true, if_false, List.replicate, Nat.reduceAdd, Nat.reduceSub, Nat.reduceMul, Nat.reduceLeDiff, Nat.reduceLT, Nat.reduceEqDiff]
        · have q3' := eq_false q3
          simp +contextual -implicitDefEqProofs (maxSteps := 2000000) only [bg_eq, a129, x_rwithin2, x_Within, x_rTicksErr, q1', q2', q3', not_true_eq_false, not_false_eq_true, ruB, rh_no, Int.reduceLT, Int.reduceLE, Int.reduceAdd, Int.reduceSub, Int.reduceMul, Int.reduceNeg, Int.reduceToNat, Int.reduceEq, Int.reduceNe, Int.reduceTDiv, Int.reduceTMod, implies_true, putL, appN, appX, appC, Eng.Fi, reduceCtorEq, exists_eq_left', exists_eq_left, if_true, if_false, List.replicate, Nat.reduceAdd, Nat.reduceSub, Nat.reduceMul, Nat.reduceLeDiff, Nat.reduceLT, Nat.reduceEqDiff]
      · have q2' := eq_false q2
        simp +contextual -implicitDefEqProofs (maxSteps := 2000000) only [bg_eq, a129, x_rwithin2, x_Within, x_rTicksErr, q1', q2', not_true_eq_false, not_false_eq_true, ruB, rh_no, Int.reduceLT, Int.reduceLE, Int.reduceAdd, Int.reduceSub, Int.reduceMul, Int.reduceNeg, Int.reduceToNat, Int.reduceEq, Int.reduceNe, Int.reduceTDiv, Int.reduceTMod, implies_true, putL, appN, appX, appC, Eng.Fi, reduceCtorEq, exists_eq_left', exists_eq_left, if_true, if_false, List.replicate, Nat.reduceAdd, Nat.reduceSub, Nat.reduceMul, Nat.reduceLeDiff, Nat.reduceLT, Nat.reduceEqDiff]
    · have q1' := eq_false q1
      simp +contextual -implicitDefEqProofs (maxSteps := 2000000) only [bg_eq, a129, x_rwithin2, x_Within, x_rTicksErr, q1', not_true_eq_false, not_false_eq_true, ruB, rh_no, Int.reduceLT, Int.reduceLE, Int.reduceAdd, Int.reduceSub, Int.reduceMul, Int.reduceNeg, Int.reduceToNat, Int.reduceEq, Int.reduceNe, Int.reduceTDiv, Int.reduceTMod, implies_true, putL, appN, appX, appC, Eng.Fi, reduceCtorEq, exists_eq_left', exists_eq_left, if_true, if_false, List.replicate, Nat.reduceAdd, Nat.reduceSub, Nat.reduceMul, Nat.reduceLeDiff, Nat.reduceLT, Nat.reduceEqDiff]
def cf_rCorridorErr : List AV → Option AV
  | [.agg [.int .i64 c_yl, .int .i64 c_yh, .int .i64 c_zl, .int .i64 c_zh, .int .i64 c_lim, .int .i64 c_fr, .int .i64 c_to]] => some (I (coE (⟨c_yl, c_yh, c_zl, c_zh, c_lim, c_fr, c_to⟩ : Co)))
  | _ => none
theorem g_rCorridorErr : Fn P 129 cf_rCorridorErr := fun args v hh => by
  unfold cf_rCorridorErr at hh; split at hh
  · have hk := Option.some.inj hh; subst hk; exact k_rCorridorErr ⟨_, _, _, _, _, _, _⟩
  · cases hh
theorem x_rCorridorErr (c : Co) : cf_rCorridorErr [.agg [I c.yl, I c.yh, I c.zl, I c.zh, I c.lim, I c.fr, I c.to]] = some (I (coE c)) := by
  rfl
def mvE (b d : Bx) : Int := if bxE b = 0 then dfE d else bxE b
theorem k_rMovesErr (b d : Bx) : FOk P 68 [eBx b, eBx d] (I (mvE b d)) := by
  have y1 := x_rBoxErr b
  have y2 := x_rDriftErr d
  by_cases h : bxE b = 0
  · have h' := eq_true h
    rw [mvE, if_pos h]
    refine c68.fok rfl (Cor.run (addC_good g_rDriftErr (addC_good g_rBoxErr (noC_good _))) (noHx_good _) hm ?_)
    simp +contextual -implicitDefEqProofs (maxSteps := 2000000) only [bg_eq, a68, y1, y2, h', not_true_eq_false, ruB, rh_no, Int.reduceLT, Int.reduceLE, Int.reduceAdd, Int.reduceSub, Int.reduceMul, Int.reduceNeg, Int.reduceToNat, Int.reduceEq, Int.reduceNe, Int.reduceTDiv, Int.reduceTMod, implies_true, putL, appN, appX, appC, Eng.Fi, reduceCtorEq, exists_eq_left', exists_eq_left, if_true, if_false, List.replicate, Nat.reduceAdd, Nat.reduceSub, Nat.reduceMul, Nat.reduceLeDiff, Nat.reduceLT, Nat.reduceEqDiff]
  · have h' := eq_false h
    rw [mvE, if_neg h]
    refine c68.fok rfl (Cor.run (addC_good g_rDriftErr (addC_good g_rBoxErr (noC_good _))) (noHx_good _) hm ?_)
    simp +contextual -implicitDefEqProofs (maxSteps := 2000000) only [bg_eq, a68, y1, y2, h', not_false_eq_true, ruB, rh_no, Int.reduceLT, Int.reduceLE, Int.reduceAdd, Int.reduceSub, Int.reduceMul, Int.reduceNeg, Int.reduceToNat, Int.reduceEq, Int.reduceNe, Int.reduceTDiv, Int.reduceTMod, implies_true, putL, appN, appX, appC, Eng.Fi, reduceCtorEq, exists_eq_left', exists_eq_left, if_true, if_false, List.replicate, Nat.reduceAdd, Nat.reduceSub, Nat.reduceMul, Nat.reduceLeDiff, Nat.reduceLT, Nat.reduceEqDiff]
def cf_rMovesErr : List AV → Option AV
  | [.agg [.int .i64 b_yl, .int .i64 b_yh, .int .i64 b_zl, .int .i64 b_zh, .int .i64 b_sl, .int .i64 b_sh], .agg [.int .i64 d_yl, .int .i64 d_yh, .int .i64 d_zl, .int .i64 d_zh, .int .i64 d_sl, .int .i64 d_sh]] => some (I (mvE (⟨b_yl, b_yh, b_zl, b_zh, b_sl, b_sh⟩ : Bx) (⟨d_yl, d_yh, d_zl, d_zh, d_sl, d_sh⟩ : Bx)))
  | _ => none
theorem g_rMovesErr : Fn P 68 cf_rMovesErr := fun args v hh => by
  unfold cf_rMovesErr at hh; split at hh
  · have hk := Option.some.inj hh; subst hk; exact k_rMovesErr ⟨_, _, _, _, _, _⟩ ⟨_, _, _, _, _, _⟩
  · cases hh
theorem x_rMovesErr (b : Bx) (d : Bx) : cf_rMovesErr [.agg [I b.yl, I b.yh, I b.zl, I b.zh, I b.sl, I b.sh], .agg [I d.yl, I d.yh, I d.zl, I d.zh, I d.sl, I d.sh]] = some (I (mvE b d)) := by
  rfl
def reG (c : Co) : Bx := ⟨c.yl, c.yh, c.zl, c.zh, c.lim, 1099511627776⟩
theorem k_rRegion (c : Co) : FOk P 130 [eCo c] (eBx (reG c)) := by
  refine c130.fok rfl (Cor.run (noC_good _) (noHx_good _) hm ?_)
  simp +contextual -implicitDefEqProofs (maxSteps := 2000000) only [bg_eq, a130, reG, ruB, rh_no, Int.reduceLT, Int.reduceLE, Int.reduceAdd, Int.reduceSub, Int.reduceMul, Int.reduceNeg, Int.reduceToNat, Int.reduceEq, Int.reduceNe, Int.reduceTDiv, Int.reduceTMod, implies_true, putL, appN, appX, appC, Eng.Fi, reduceCtorEq, exists_eq_left', exists_eq_left, if_true, if_false, List.replicate, Nat.reduceAdd, Nat.reduceSub, Nat.reduceMul, Nat.reduceLeDiff, Nat.reduceLT, Nat.reduceEqDiff]
def cf_rRegion : List AV → Option AV
  | [.agg [.int .i64 c_yl, .int .i64 c_yh, .int .i64 c_zl, .int .i64 c_zh, .int .i64 c_lim, .int .i64 c_fr, .int .i64 c_to]] => some (eBx (reG (⟨c_yl, c_yh, c_zl, c_zh, c_lim, c_fr, c_to⟩ : Co)))
  | _ => none
theorem g_rRegion : Fn P 130 cf_rRegion := fun args v hh => by
  unfold cf_rRegion at hh; split at hh
  · have hk := Option.some.inj hh; subst hk; exact k_rRegion ⟨_, _, _, _, _, _, _⟩
  · cases hh
theorem x_rRegion (c : Co) : cf_rRegion [.agg [I c.yl, I c.yh, I c.zl, I c.zh, I c.lim, I c.fr, I c.to]] = some (eBx (reG c)) := by
  rfl
def mtV (a b : Bx) : AV := if mnP a b then .tup [eBx (meB a b), .bool true] else .tup [eBx zBx, .bool false]
theorem k_rMeet (a b : Bx) : FOk P 28 [eBx a, eBx b] (mtV a b) := by
  by_cases c1 : max a.yl b.yl ≤ min a.yh b.yh
  · have c1' := eq_true c1
    by_cases c2 : max a.zl b.zl ≤ min a.zh b.zh
    · have c2' := eq_true c2
      by_cases c3 : max a.sl b.sl ≤ min a.sh b.sh
      · have c3' := eq_true c3
        rw [mtV, if_pos (show mnP a b from ⟨⟨c1, c2⟩, c3⟩)]
        refine c28.fok rfl (Cor.run (addC_good g_rmeet (noC_good _)) (noHx_good _) hm ?_)
        simp +contextual -implicitDefEqProofs (maxSteps := 2000000) only [bg_eq, a28, x_rmeet, c1', c2', c3', meB, not_true_eq_false, ruB, rh_no, Int.reduceLT, Int.reduceLE, Int.reduceAdd, Int.reduceSub, Int.reduceMul, Int.reduceNeg, Int.reduceToNat, Int.reduceEq, Int.reduceNe, Int.reduceTDiv, Int.reduceTMod, implies_true, putL, appN, appX, appC, Eng.Fi, reduceCtorEq, exists_eq_left', exists_eq_left, if_true, if_false, List.replicate, Nat.reduceAdd, Nat.reduceSub, Nat.reduceMul, Nat.reduceLeDiff, Nat.reduceLT, Nat.reduceEqDiff]
      · have c3' := eq_false c3
        rw [mtV, if_neg (fun h : mnP a b => c3 h.2)]
        refine c28.fok rfl (Cor.run (addC_good g_rmeet (noC_good _)) (noHx_good _) hm ?_)
        simp +contextual -implicitDefEqProofs (maxSteps := 2000000) only [bg_eq, a28, x_rmeet, c1', c2', c3', zBx, not_true_eq_false, not_false_eq_true, ruB, rh_no, Int.reduceLT, Int.reduceLE, Int.reduceAdd, Int.reduceSub, Int.reduceMul, Int.reduceNeg, Int.reduceToNat, Int.reduceEq, Int.reduceNe, Int.reduceTDiv, Int.reduceTMod, implies_true, putL, appN, appX, appC, Eng.Fi, reduceCtorEq, exists_eq_left', exists_eq_left, if_true, if_false, List.replicate, Nat.reduceAdd, Nat.reduceSub, Nat.reduceMul, Nat.reduceLeDiff, Nat.reduceLT, Nat.reduceEqDiff]
    · have c2' := eq_false c2
      rw [mtV, if_neg (fun h : mnP a b => c2 h.1.2)]
      refine c28.fok rfl (Cor.run (addC_good g_rmeet (noC_good _)) (noHx_good _) hm ?_)
      simp +contextual -implicitDefEqProofs (maxSteps := 2000000) only [bg_eq, a28, x_rmeet, c1', c2', zBx, not_true_eq_false, not_false_eq_true, ruB, rh_no, Int.reduceLT, Int.reduceLE, Int.reduceAdd, Int.reduceSub, Int.reduceMul, Int.reduceNeg, Int.reduceToNat, Int.reduceEq, Int.reduceNe, Int.reduceTDiv, Int.reduceTMod, implies_true, putL, appN, appX, appC, Eng.Fi, reduceCtorEq, exists_eq_left', exists_eq_left, if_true, if_false, List.replicate, Nat.reduceAdd, Nat.reduceSub, Nat.reduceMul, Nat.reduceLeDiff, Nat.reduceLT, Nat.reduceEqDiff]
  · have c1' := eq_false c1
    rw [mtV, if_neg (fun h : mnP a b => c1 h.1.1)]
    refine c28.fok rfl (Cor.run (addC_good g_rmeet (noC_good _)) (noHx_good _) hm ?_)
    simp +contextual -implicitDefEqProofs (maxSteps := 2000000) only [bg_eq, a28, x_rmeet, c1', zBx, not_true_eq_false, not_false_eq_true, ruB, rh_no, Int.reduceLT, Int.reduceLE, Int.reduceAdd, Int.reduceSub, Int.reduceMul, Int.reduceNeg, Int.reduceToNat, Int.reduceEq, Int.reduceNe, Int.reduceTDiv, Int.reduceTMod, implies_true, putL, appN, appX, appC, Eng.Fi, reduceCtorEq, exists_eq_left', exists_eq_left, if_true, if_false, List.replicate, Nat.reduceAdd, Nat.reduceSub, Nat.reduceMul, Nat.reduceLeDiff, Nat.reduceLT, Nat.reduceEqDiff]
def cf_rMeet : List AV → Option AV
  | [.agg [.int .i64 a_yl, .int .i64 a_yh, .int .i64 a_zl, .int .i64 a_zh, .int .i64 a_sl, .int .i64 a_sh], .agg [.int .i64 b_yl, .int .i64 b_yh, .int .i64 b_zl, .int .i64 b_zh, .int .i64 b_sl, .int .i64 b_sh]] => some (mtV (⟨a_yl, a_yh, a_zl, a_zh, a_sl, a_sh⟩ : Bx) (⟨b_yl, b_yh, b_zl, b_zh, b_sl, b_sh⟩ : Bx))
  | _ => none
theorem g_rMeet : Fn P 28 cf_rMeet := fun args v hh => by
  unfold cf_rMeet at hh; split at hh
  · have hk := Option.some.inj hh; subst hk; exact k_rMeet ⟨_, _, _, _, _, _⟩ ⟨_, _, _, _, _, _⟩
  · cases hh
theorem x_rMeet (a : Bx) (b : Bx) : cf_rMeet [.agg [I a.yl, I a.yh, I a.zl, I a.zh, I a.sl, I a.sh], .agg [I b.yl, I b.yh, I b.zl, I b.zh, I b.sl, I b.sh]] = some (mtV a b) := by
  rfl
end Wa
