import Derived.Test.YtabkbhpeeefmgaaEngS9
import Derived.Test.YtabkbhpeeefmgaaW900
open Go Go.Proofs Eng
set_option maxRecDepth 100000
set_option linter.unusedSimpArgs false
set_option linter.unusedVariables false
def a24 : AC := .seq (.ops false [] [⟨some 1, .box 50 6 1 true, [.t 0], none⟩, ⟨some 2, .p (.mov), [.c (.int .i64 0)], none⟩]) (.seq (.ops false [] [⟨some 4, .p (.faddr 0), [.t 1], none⟩, ⟨some 5, .load 2 true, [.t 4], none⟩, ⟨some 6, .call 90, [.t 5, .c (.int .i64 (-1000000)), .c (.int .i64 1000000)], none⟩, ⟨some 7, .p (.mov), [.t 6], none⟩, ⟨some 8, .p (.faddr 2), [.t 1], some (7, true)⟩, ⟨some 9, .load 2 true, [.t 8], some (7, true)⟩, ⟨some 10, .call 90, [.t 9, .c (.int .i64 0), .c (.int .i64 1000000)], some (7, true)⟩, ⟨some 11, .p (.pick), [.t 7, .t 10, .c (.bool false)], none⟩, ⟨some 12, .p (.mov), [.t 11], none⟩, ⟨some 13, .p (.faddr 4), [.t 1], some (12, true)⟩, ⟨some 14, .load 2 true, [.t 13], some (12, true)⟩, ⟨some 15, .call 90, [.t 14, .c (.int .i64 0), .c (.int .i64 10000)], some (12, true)⟩, ⟨some 16, .p (.pick), [.t 12, .t 15, .c (.bool false)], none⟩, ⟨some 3, .p (.mov), [.t 16], none⟩]) (.seq (.ops true [] [⟨some 17, .p (.mov), [.t 3], none⟩, ⟨some 18, .call 91, [.t 17, .c (.int .i64 2)], none⟩, ⟨some 19, .p (.faddr 0), [.t 1], none⟩, ⟨some 20, .load 2 true, [.t 19], none⟩, ⟨some 21, .call 92, [.t 20], none⟩, ⟨some 22, .p (.faddr 2), [.t 1], none⟩, ⟨some 23, .load 2 true, [.t 22], none⟩, ⟨some 24, .call 92, [.t 23], none⟩, ⟨some 25, .p (.faddr 4), [.t 1], none⟩, ⟨some 26, .load 2 true, [.t 25], none⟩, ⟨some 27, .call 92, [.t 26], none⟩, ⟨some 28, .fbs 1, [.t 18, .t 21, .t 24, .t 27], none⟩, ⟨some 29, .call 79, [.t 28], none⟩, ⟨some 2, .p (.mov), [.t 29], none⟩]) (.ret)))
theorem c24 : FnC Try.prog 24 30 a24 [.tmp 2] := ⟨Try.call24, _, _, Try.func24, rfl, by kernel_rfl, by kernel_rfl, rfl⟩
def a25 : AC := .seq (.ops false [] [⟨some 3, .box 50 6 1 true, [.t 0], none⟩, ⟨some 4, .box 52 6 1 true, [.t 1], none⟩, ⟨some 6, .alloc 50 6 [.agg [.int .i64 0, .int .i64 0, .int .i64 0, .int .i64 0, .int .i64 0, .int .i64 0]], [], none⟩, ⟨some 7, .p (.mov), [.c (.int .i64 0)], none⟩]) (.seq (.seq (.ops true [] [⟨some 9, .load 6 true, [.t 3], none⟩, ⟨some 10, .call 24, [.t 9], none⟩, ⟨some 11, .load 6 true, [.t 4], none⟩, ⟨some 12, .call 93, [.t 11], none⟩, ⟨some 13, .p (.mov), [.t 2], none⟩, ⟨some 14, .call 94, [.t 13], none⟩, ⟨some 15, .call 91, [.t 14, .c (.int .i64 2)], none⟩, ⟨some 16, .fbs 1, [.t 10, .t 12, .t 15], none⟩, ⟨some 17, .call 79, [.t 16], none⟩, ⟨some 8, .p (.mov), [.t 17], none⟩]) (.seq (.ops false [] [⟨some 18, .p (.mov), [.t 8], none⟩, ⟨some 19, .p (.binI .neq), [.t 18, .c (.int .i64 0)], none⟩]) (.cond (.t 19) (.seq (.ops false [] [⟨some 20, .p (.build [.int .i64 0, .int .i64 0, .int .i64 0, .int .i64 0, .int .i64 0, .int .i64 0] []), [], none⟩, ⟨some 21, .p (.mov), [.t 8], none⟩, ⟨none, .store 6 true, [.t 6, .t 20], none⟩, ⟨some 7, .p (.mov), [.t 21], none⟩]) (.ret)) (.skip)))) (.seq (.ops false [] [⟨some 22, .load 6 true, [.t 3], none⟩, ⟨some 23, .load 6 true, [.t 4], none⟩, ⟨some 24, .p (.mov), [.t 2], none⟩, ⟨some 25, .call 95, [.t 22, .t 23, .t 24], none⟩, ⟨none, .store 6 true, [.t 6, .t 25], none⟩, ⟨some 7, .p (.mov), [.c (.int .i64 0)], none⟩]) (.ret)))
theorem c25 : FnC Try.prog 25 26 a25 [.cell 6 6 true, .tmp 7] := ⟨Try.call25, _, _, Try.func25, rfl, by kernel_rfl, by kernel_rfl, rfl⟩
def a90 : AC := .seq (.ops false [] [⟨some 3, .box 48 2 1 true, [.t 0], none⟩, ⟨some 6, .p (.mov), [.c (.bool false)], none⟩]) (.seq (.ops false [] [⟨some 7, .p (.faddr 0), [.t 3], none⟩, ⟨some 8, .load 1 false, [.t 7], none⟩, ⟨some 9, .p (.mov), [.t 1], none⟩, ⟨some 10, .p (.mov), [.t 2], none⟩, ⟨some 11, .call 103, [.t 8, .t 9, .t 10], none⟩, ⟨some 12, .p (.mov), [.t 11], none⟩, ⟨some 13, .p (.faddr 1), [.t 3], some (12, true)⟩, ⟨some 14, .load 1 false, [.t 13], some (12, true)⟩, ⟨some 15, .p (.mov), [.t 1], some (12, true)⟩, ⟨some 16, .p (.mov), [.t 2], some (12, true)⟩, ⟨some 17, .call 103, [.t 14, .t 15, .t 16], some (12, true)⟩, ⟨some 18, .p (.pick), [.t 12, .t 17, .c (.bool false)], none⟩, ⟨some 6, .p (.mov), [.t 18], none⟩]) (.ret))
theorem c90 : FnC Try.prog 90 19 a90 [.tmp 6] := ⟨Try.call90, _, _, Try.func90, rfl, by kernel_rfl, by kernel_rfl, rfl⟩
def a93 : AC := .seq (.ops false [] [⟨some 1, .box 52 6 1 true, [.t 0], none⟩, ⟨some 2, .p (.mov), [.c (.int .i64 0)], none⟩]) (.seq (.ops false [] [⟨some 4, .p (.faddr 0), [.t 1], none⟩, ⟨some 5, .load 2 true, [.t 4], none⟩, ⟨some 6, .call 90, [.t 5, .c (.int .i64 (-100)), .c (.int .i64 100)], none⟩, ⟨some 7, .p (.mov), [.t 6], none⟩, ⟨some 8, .p (.faddr 2), [.t 1], some (7, true)⟩, ⟨some 9, .load 2 true, [.t 8], some (7, true)⟩, ⟨some 10, .call 90, [.t 9, .c (.int .i64 0), .c (.int .i64 100)], some (7, true)⟩, ⟨some 11, .p (.pick), [.t 7, .t 10, .c (.bool false)], none⟩, ⟨some 12, .p (.mov), [.t 11], none⟩, ⟨some 13, .p (.faddr 4), [.t 1], some (12, true)⟩, ⟨some 14, .load 2 true, [.t 13], some (12, true)⟩, ⟨some 15, .call 90, [.t 14, .c (.int .i64 0), .c (.int .i64 100)], some (12, true)⟩, ⟨some 16, .p (.pick), [.t 12, .t 15, .c (.bool false)], none⟩, ⟨some 3, .p (.mov), [.t 16], none⟩]) (.seq (.ops true [] [⟨some 17, .p (.mov), [.t 3], none⟩, ⟨some 18, .call 91, [.t 17, .c (.int .i64 2)], none⟩, ⟨some 19, .p (.faddr 0), [.t 1], none⟩, ⟨some 20, .load 2 true, [.t 19], none⟩, ⟨some 21, .call 92, [.t 20], none⟩, ⟨some 22, .p (.faddr 2), [.t 1], none⟩, ⟨some 23, .load 2 true, [.t 22], none⟩, ⟨some 24, .call 92, [.t 23], none⟩, ⟨some 25, .p (.faddr 4), [.t 1], none⟩, ⟨some 26, .load 2 true, [.t 25], none⟩, ⟨some 27, .call 92, [.t 26], none⟩, ⟨some 28, .fbs 1, [.t 18, .t 21, .t 24, .t 27], none⟩, ⟨some 29, .call 79, [.t 28], none⟩, ⟨some 2, .p (.mov), [.t 29], none⟩]) (.ret)))
theorem c93 : FnC Try.prog 93 30 a93 [.tmp 2] := ⟨Try.call93, _, _, Try.func93, rfl, by kernel_rfl, by kernel_rfl, rfl⟩
def a94 : AC := .seq (.ops false [] [⟨some 2, .p (.mov), [.c (.bool false)], none⟩]) (.seq (.ops false [] [⟨some 3, .p (.mov), [.t 0], none⟩, ⟨some 4, .call 103, [.t 3, .c (.int .i64 0), .c (.int .i64 1000)], none⟩, ⟨some 2, .p (.mov), [.t 4], none⟩]) (.ret))
theorem c94 : FnC Try.prog 94 5 a94 [.tmp 2] := ⟨Try.call94, _, _, Try.func94, rfl, by kernel_rfl, by kernel_rfl, rfl⟩
def a95 : AC := .seq (.ops false [] [⟨some 3, .box 50 6 1 true, [.t 0], none⟩, ⟨some 4, .box 52 6 1 true, [.t 1], none⟩, ⟨some 6, .alloc 50 6 [.agg [.int .i64 0, .int .i64 0, .int .i64 0, .int .i64 0, .int .i64 0, .int .i64 0]], [], none⟩]) (.seq (.ops true [] [⟨some 7, .p (.faddr 0), [.t 3], none⟩, ⟨some 8, .p (.faddr 0), [.t 7], none⟩, ⟨some 9, .load 1 false, [.t 8], none⟩, ⟨some 10, .p (.mov), [.t 2], none⟩, ⟨some 11, .p (.faddr 0), [.t 4], none⟩, ⟨some 12, .p (.faddr 0), [.t 11], none⟩, ⟨some 13, .load 1 false, [.t 12], none⟩, ⟨some 14, .p (.binI .mul), [.t 10, .t 13], none⟩, ⟨some 15, .p (.binI .add), [.t 9, .t 14], none⟩, ⟨some 16, .p (.faddr 0), [.t 3], none⟩, ⟨some 17, .p (.faddr 1), [.t 16], none⟩, ⟨some 18, .load 1 false, [.t 17], none⟩, ⟨some 19, .p (.mov), [.t 2], none⟩, ⟨some 20, .p (.faddr 0), [.t 4], none⟩, ⟨some 21, .p (.faddr 1), [.t 20], none⟩, ⟨some 22, .load 1 false, [.t 21], none⟩, ⟨some 23, .p (.binI .mul), [.t 19, .t 22], none⟩, ⟨some 24, .p (.binI .add), [.t 18, .t 23], none⟩, ⟨some 25, .p (.build [.int .i64 0, .int .i64 0] [(0, 1), (1, 1)]), [.t 15, .t 24], none⟩, ⟨some 26, .p (.faddr 2), [.t 3], none⟩, ⟨some 27, .load 2 true, [.t 26], none⟩, ⟨some 28, .p (.faddr 2), [.t 4], none⟩, ⟨some 29, .load 2 true, [.t 28], none⟩, ⟨some 30, .p (.mov), [.t 2], none⟩, ⟨some 31, .call 136, [.t 27, .t 29, .t 30], none⟩, ⟨some 32, .p (.faddr 4), [.t 3], none⟩, ⟨some 33, .load 2 true, [.t 32], none⟩, ⟨some 34, .p (.faddr 4), [.t 4], none⟩, ⟨some 35, .load 2 true, [.t 34], none⟩, ⟨some 36, .p (.mov), [.t 2], none⟩, ⟨some 37, .call 136, [.t 33, .t 35, .t 36], none⟩, ⟨some 38, .p (.build [.int .i64 0, .int .i64 0, .int .i64 0, .int .i64 0, .int .i64 0, .int .i64 0] [(0, 2), (2, 2), (4, 2)]), [.t 25, .t 31, .t 37], none⟩, ⟨none, .store 6 true, [.t 6, .t 38], none⟩]) (.ret))
theorem c95 : FnC Try.prog 95 39 a95 [.cell 6 6 true] := ⟨Try.call95, _, _, Try.func95, rfl, by kernel_rfl, by kernel_rfl, rfl⟩
def a96 : AC := .seq (.ops false [] [⟨some 2, .box 48 2 1 true, [.t 0], none⟩, ⟨some 3, .box 48 2 1 true, [.t 1], none⟩, ⟨some 4, .alloc 48 2 [.agg [.int .i64 0, .int .i64 0]], [], none⟩, ⟨some 5, .p (.mov), [.c (.bool false)], none⟩]) (.seq (.ops false [] [⟨some 7, .p (.faddr 0), [.t 2], none⟩, ⟨some 8, .load 1 false, [.t 7], none⟩, ⟨some 9, .p (.faddr 0), [.t 3], none⟩, ⟨some 10, .load 1 false, [.t 9], none⟩, ⟨some 11, .p (.mm true), [.t 8, .t 10], none⟩, ⟨some 12, .p (.faddr 1), [.t 2], none⟩, ⟨some 13, .load 1 false, [.t 12], none⟩, ⟨some 14, .p (.faddr 1), [.t 3], none⟩, ⟨some 15, .load 1 false, [.t 14], none⟩, ⟨some 16, .p (.mm false), [.t 13, .t 15], none⟩, ⟨some 17, .p (.build [.int .i64 0, .int .i64 0] [(0, 1), (1, 1)]), [.t 11, .t 16], none⟩, ⟨some 6, .alloc 48 2 [.agg [.int .i64 0, .int .i64 0]], [], none⟩, ⟨none, .store 2 true, [.t 6, .t 17], none⟩]) (.seq (.ops true [(2, 6), (4, 6)] [⟨some 18, .load 2 true, [.t 6], none⟩, ⟨some 19, .p (.faddr 0), [.t 6], none⟩, ⟨some 20, .load 1 false, [.t 19], none⟩, ⟨some 21, .p (.faddr 1), [.t 6], none⟩, ⟨some 22, .load 1 false, [.t 21], none⟩, ⟨some 23, .p (.binI .leq), [.t 20, .t 22], none⟩, ⟨none, .store 2 true, [.t 4, .t 18], none⟩, ⟨some 5, .p (.mov), [.t 23], none⟩]) (.ret)))
theorem c96 : FnC Try.prog 96 24 a96 [.cell 4 2 true, .tmp 5] := ⟨Try.call96, _, _, Try.func96, rfl, by kernel_rfl, by kernel_rfl, rfl⟩
def a126 : AC := .seq (.ops false [] [⟨some 3, .box 50 6 1 true, [.t 0], none⟩, ⟨some 4, .box 52 6 1 true, [.t 1], none⟩, ⟨some 5, .box 123 7 1 true, [.t 2], none⟩, ⟨some 6, .p (.mov), [.c (.int .i64 0)], none⟩]) (.seq (.ops true [] [⟨some 7, .load 6 true, [.t 3], none⟩, ⟨some 8, .call 24, [.t 7], none⟩, ⟨some 9, .load 6 true, [.t 4], none⟩, ⟨some 10, .call 93, [.t 9], none⟩, ⟨some 11, .load 7 true, [.t 5], none⟩, ⟨some 12, .call 155, [.t 11], none⟩, ⟨some 13, .fbs 1, [.t 8, .t 10, .t 12], none⟩, ⟨some 14, .call 79, [.t 13], none⟩, ⟨some 6, .p (.mov), [.t 14], none⟩]) (.ret))
theorem c126 : FnC Try.prog 126 15 a126 [.tmp 6] := ⟨Try.call126, _, _, Try.func126, rfl, by kernel_rfl, by kernel_rfl, rfl⟩
def a128 : AC := .seq (.ops false [] [⟨some 2, .box 50 6 1 true, [.t 0], none⟩, ⟨some 3, .box 123 7 1 true, [.t 1], none⟩, ⟨some 4, .p (.mov), [.c (.bool false)], none⟩]) (.seq (.ops false [] [⟨some 10, .p (.faddr 0), [.t 2], none⟩, ⟨some 11, .load 2 true, [.t 10], none⟩, ⟨some 12, .p (.faddr 0), [.t 3], none⟩, ⟨some 13, .load 2 true, [.t 12], none⟩, ⟨some 14, .call 96, [.t 11, .t 13], none⟩, ⟨some 9, .p (.mov), [.t 14], none⟩, ⟨some 15, .p (.ext 0), [.t 9], none⟩, ⟨some 16, .p (.ext 1), [.t 9], none⟩, ⟨some 5, .alloc 48 2 [.agg [.int .i64 0, .int .i64 0]], [], none⟩, ⟨none, .store 2 true, [.t 5, .t 15], none⟩, ⟨some 6, .p (.mov), [.t 16], none⟩]) (.seq (.ops false [] [⟨some 18, .p (.faddr 2), [.t 2], none⟩, ⟨some 19, .load 2 true, [.t 18], none⟩, ⟨some 20, .p (.faddr 2), [.t 3], none⟩, ⟨some 21, .load 2 true, [.t 20], none⟩, ⟨some 22, .call 96, [.t 19, .t 21], none⟩, ⟨some 17, .p (.mov), [.t 22], none⟩, ⟨some 23, .p (.ext 0), [.t 17], none⟩, ⟨some 24, .p (.ext 1), [.t 17], none⟩, ⟨some 7, .alloc 48 2 [.agg [.int .i64 0, .int .i64 0]], [], none⟩, ⟨none, .store 2 true, [.t 7, .t 23], none⟩, ⟨some 8, .p (.mov), [.t 24], none⟩]) (.seq (.ops false [] [⟨some 25, .p (.mov), [.t 6], none⟩, ⟨some 26, .p (.mov), [.t 25], none⟩, ⟨some 27, .p (.mov), [.t 8], some (26, true)⟩, ⟨some 28, .p (.pick), [.t 26, .t 27, .c (.bool false)], none⟩, ⟨some 29, .p (.mov), [.t 28], none⟩, ⟨some 30, .p (.faddr 4), [.t 2], some (29, true)⟩, ⟨some 31, .p (.faddr 1), [.t 30], some (29, true)⟩, ⟨some 32, .load 1 false, [.t 31], some (29, true)⟩, ⟨some 33, .p (.faddr 4), [.t 3], some (29, true)⟩, ⟨some 34, .load 1 false, [.t 33], some (29, true)⟩, ⟨some 35, .p (.binI .geq), [.t 32, .t 34], some (29, true)⟩, ⟨some 36, .p (.pick), [.t 29, .t 35, .c (.bool false)], none⟩, ⟨some 4, .p (.mov), [.t 36], none⟩]) (.ret))))
theorem c128 : FnC Try.prog 128 37 a128 [.tmp 4] := ⟨Try.call128, _, _, Try.func128, rfl, by kernel_rfl, by kernel_rfl, rfl⟩
def a136 : AC := .seq (.ops false [] [⟨some 3, .box 48 2 1 true, [.t 0], none⟩, ⟨some 4, .box 48 2 1 true, [.t 1], none⟩, ⟨some 6, .alloc 48 2 [.agg [.int .i64 0, .int .i64 0]], [], none⟩]) (.seq (.ops false [] [⟨some 7, .p (.faddr 0), [.t 3], none⟩, ⟨some 8, .load 1 false, [.t 7], none⟩, ⟨some 9, .p (.mov), [.t 2], none⟩, ⟨some 10, .p (.faddr 1), [.t 4], none⟩, ⟨some 11, .load 1 false, [.t 10], none⟩, ⟨some 12, .p (.binI .mul), [.t 9, .t 11], none⟩, ⟨some 13, .p (.binI .sub), [.t 8, .t 12], none⟩, ⟨some 14, .p (.mm true), [.c (.int .i64 0), .t 13], none⟩, ⟨some 15, .p (.faddr 1), [.t 3], none⟩, ⟨some 16, .load 1 false, [.t 15], none⟩, ⟨some 17, .p (.mov), [.t 2], none⟩, ⟨some 18, .p (.faddr 0), [.t 4], none⟩, ⟨some 19, .load 1 false, [.t 18], none⟩, ⟨some 20, .p (.binI .mul), [.t 17, .t 19], none⟩, ⟨some 21, .p (.binI .sub), [.t 16, .t 20], none⟩, ⟨some 22, .p (.mm true), [.c (.int .i64 0), .t 21], none⟩, ⟨some 23, .p (.build [.int .i64 0, .int .i64 0] [(0, 1), (1, 1)]), [.t 14, .t 22], none⟩, ⟨none, .store 2 true, [.t 6, .t 23], none⟩]) (.ret))
theorem c136 : FnC Try.prog 136 24 a136 [.cell 6 2 true] := ⟨Try.call136, _, _, Try.func136, rfl, by kernel_rfl, by kernel_rfl, rfl⟩
def a155 : AC := .seq (.ops false [] [⟨some 1, .box 123 7 1 true, [.t 0], none⟩, ⟨some 2, .p (.mov), [.c (.int .i64 0)], none⟩]) (.seq (.ops false [] [⟨some 4, .p (.faddr 0), [.t 1], none⟩, ⟨some 5, .load 2 true, [.t 4], none⟩, ⟨some 6, .call 90, [.t 5, .c (.int .i64 (-1000000)), .c (.int .i64 1000000)], none⟩, ⟨some 7, .p (.mov), [.t 6], none⟩, ⟨some 8, .p (.faddr 2), [.t 1], some (7, true)⟩, ⟨some 9, .load 2 true, [.t 8], some (7, true)⟩, ⟨some 10, .call 90, [.t 9, .c (.int .i64 (-1000000)), .c (.int .i64 1000000)], some (7, true)⟩, ⟨some 11, .p (.pick), [.t 7, .t 10, .c (.bool false)], none⟩, ⟨some 12, .p (.mov), [.t 11], none⟩, ⟨some 13, .p (.faddr 4), [.t 1], some (12, true)⟩, ⟨some 14, .load 1 false, [.t 13], some (12, true)⟩, ⟨some 15, .call 103, [.t 14, .c (.int .i64 0), .c (.int .i64 10000)], some (12, true)⟩, ⟨some 16, .p (.pick), [.t 12, .t 15, .c (.bool false)], none⟩, ⟨some 17, .p (.mov), [.t 16], none⟩, ⟨some 18, .p (.faddr 5), [.t 1], some (17, true)⟩, ⟨some 19, .load 1 false, [.t 18], some (17, true)⟩, ⟨some 20, .call 94, [.t 19], some (17, true)⟩, ⟨some 21, .p (.pick), [.t 17, .t 20, .c (.bool false)], none⟩, ⟨some 22, .p (.mov), [.t 21], none⟩, ⟨some 23, .p (.faddr 6), [.t 1], some (22, true)⟩, ⟨some 24, .load 1 false, [.t 23], some (22, true)⟩, ⟨some 25, .call 94, [.t 24], some (22, true)⟩, ⟨some 26, .p (.pick), [.t 22, .t 25, .c (.bool false)], none⟩, ⟨some 3, .p (.mov), [.t 26], none⟩]) (.seq (.ops true [] [⟨some 27, .p (.mov), [.t 3], none⟩, ⟨some 28, .call 91, [.t 27, .c (.int .i64 2)], none⟩, ⟨some 29, .p (.faddr 0), [.t 1], none⟩, ⟨some 30, .load 2 true, [.t 29], none⟩, ⟨some 31, .call 92, [.t 30], none⟩, ⟨some 32, .p (.faddr 2), [.t 1], none⟩, ⟨some 33, .load 2 true, [.t 32], none⟩, ⟨some 34, .call 92, [.t 33], none⟩, ⟨some 35, .p (.faddr 5), [.t 1], none⟩, ⟨some 36, .load 1 false, [.t 35], none⟩, ⟨some 37, .p (.faddr 6), [.t 1], none⟩, ⟨some 38, .load 1 false, [.t 37], none⟩, ⟨some 39, .p (.binI .leq), [.t 36, .t 38], none⟩, ⟨some 40, .call 91, [.t 39, .c (.int .i64 9)], none⟩, ⟨some 41, .fbs 1, [.t 28, .t 31, .t 34, .t 40], none⟩, ⟨some 42, .call 79, [.t 41], none⟩, ⟨some 2, .p (.mov), [.t 42], none⟩]) (.ret)))
theorem c155 : FnC Try.prog 155 43 a155 [.tmp 2] := ⟨Try.call155, _, _, Try.func155, rfl, by kernel_rfl, by kernel_rfl, rfl⟩
namespace Wa
def inR (lo hi a b : Int) : Prop := (lo ≤ a ∧ a ≤ hi) ∧ (lo ≤ b ∧ b ≤ hi)
instance (lo hi a b : Int) : Decidable (inR lo hi a b) := by unfold inR; infer_instance
theorem k_inside (a b lo hi : Int) : FOk P 90 [eRn ⟨a, b⟩, I lo, I hi] (.bool (decide (inR lo hi a b))) := by
  refine c90.fok rfl (Cor.run (addC_good g_within (noC_good _)) (noHx_good _) hm ?_)
  simp +contextual -implicitDefEqProofs (maxSteps := 2000000) only [bg_eq, a90, x_within, inR, ruB, rh_no, Int.reduceLT, Int.reduceLE, Int.reduceAdd, Int.reduceSub, Int.reduceMul, Int.reduceNeg, Int.reduceToNat, Int.reduceEq, Int.reduceNe, Int.reduceTDiv, Int.reduceTMod, implies_true, putL, appN, appX, appC, Eng.Fi, reduceCtorEq, exists_eq_left', exists_eq_left, if_true, if_false, List.replicate, Nat.reduceAdd, Nat.reduceSub, Nat.reduceMul, Nat.reduceLeDiff, Nat.reduceLT, Nat.reduceEqDiff]
def cf_inside : List AV → Option AV
  | [.agg [.int .i64 a, .int .i64 b], .int .i64 lo, .int .i64 hi] => some (.bool (decide (inR lo hi a b)))
  | _ => none
theorem g_inside : Fn P 90 cf_inside := fun args v h => by
  unfold cf_inside at h; split at h
  · have h := Option.some.inj h; subst h; exact k_inside _ _ _ _
  · cases h
theorem x_inside (a b lo hi : Int) : cf_inside [.agg [.int .i64 a, .int .i64 b], .int .i64 lo, .int .i64 hi] = some (.bool (decide (inR lo hi a b))) := rfl
def bxR (b : Bx) : Prop := (inR (-1000000) 1000000 b.yl b.yh ∧ inR 0 1000000 b.zl b.zh) ∧ inR 0 10000 b.sl b.sh
instance (b : Bx) : Decidable (bxR b) := by unfold bxR; infer_instance
def bxE (b : Bx) : Int := firstE [unl (bxR b) 2, unl (b.yl ≤ b.yh) 9, unl (b.zl ≤ b.zh) 9, unl (b.sl ≤ b.sh) 9]
theorem k_CheckBox (b : Bx) : FOk P 24 [eBx b] (I (bxE b)) := by
  refine c24.fok rfl (Cor.run (addC_good g_first (addC_good g_unless (addC_good g_orderErr (addC_good g_inside (noC_good _))))) (noHx_good _) hm ?_)
  simp +contextual -implicitDefEqProofs (maxSteps := 2000000) only [bg_eq, a24, x_inside, x_orderErr, x_unless, x_first, y_first, bxE, bxR, ruB, rh_no, Int.reduceLT, Int.reduceLE, Int.reduceAdd, Int.reduceSub, Int.reduceMul, Int.reduceNeg, Int.reduceToNat, Int.reduceEq, Int.reduceNe, Int.reduceTDiv, Int.reduceTMod, implies_true, putL, appN, appX, appC, Eng.Fi, reduceCtorEq, exists_eq_left', exists_eq_left, if_true, if_false, List.replicate, Nat.reduceAdd, Nat.reduceSub, Nat.reduceMul, Nat.reduceLeDiff, Nat.reduceLT, Nat.reduceEqDiff]
def cf_CheckBox : List AV → Option AV
  | [.agg [.int .i64 b_yl, .int .i64 b_yh, .int .i64 b_zl, .int .i64 b_zh, .int .i64 b_sl, .int .i64 b_sh]] => some (I (bxE (⟨b_yl, b_yh, b_zl, b_zh, b_sl, b_sh⟩ : Bx)))
  | _ => none
theorem g_CheckBox : Fn P 24 cf_CheckBox := fun args v hh => by
  unfold cf_CheckBox at hh; split at hh
  · have hk := Option.some.inj hh; subst hk; exact k_CheckBox ⟨_, _, _, _, _, _⟩
  · cases hh
theorem x_CheckBox (b : Bx) : cf_CheckBox [.agg [I b.yl, I b.yh, I b.zl, I b.zh, I b.sl, I b.sh]] = some (I (bxE b)) := by
  rfl
def dfR (b : Bx) : Prop := (inR (-100) 100 b.yl b.yh ∧ inR 0 100 b.zl b.zh) ∧ inR 0 100 b.sl b.sh
instance (b : Bx) : Decidable (dfR b) := by unfold dfR; infer_instance
def dfE (b : Bx) : Int := firstE [unl (dfR b) 2, unl (b.yl ≤ b.yh) 9, unl (b.zl ≤ b.zh) 9, unl (b.sl ≤ b.sh) 9]
theorem k_driftErr (b : Bx) : FOk P 93 [eBx b] (I (dfE b)) := by
  refine c93.fok rfl (Cor.run (addC_good g_first (addC_good g_unless (addC_good g_orderErr (addC_good g_inside (noC_good _))))) (noHx_good _) hm ?_)
  simp +contextual -implicitDefEqProofs (maxSteps := 2000000) only [bg_eq, a93, x_inside, x_orderErr, x_unless, x_first, y_first, dfE, dfR, ruB, rh_no, Int.reduceLT, Int.reduceLE, Int.reduceAdd, Int.reduceSub, Int.reduceMul, Int.reduceNeg, Int.reduceToNat, Int.reduceEq, Int.reduceNe, Int.reduceTDiv, Int.reduceTMod, implies_true, putL, appN, appX, appC, Eng.Fi, reduceCtorEq, exists_eq_left', exists_eq_left, if_true, if_false, List.replicate, Nat.reduceAdd, Nat.reduceSub, Nat.reduceMul, Nat.reduceLeDiff, Nat.reduceLT, Nat.reduceEqDiff]
def cf_driftErr : List AV → Option AV
  | [.agg [.int .i64 b_yl, .int .i64 b_yh, .int .i64 b_zl, .int .i64 b_zh, .int .i64 b_sl, .int .i64 b_sh]] => some (I (dfE (⟨b_yl, b_yh, b_zl, b_zh, b_sl, b_sh⟩ : Bx)))
  | _ => none
theorem g_driftErr : Fn P 93 cf_driftErr := fun args v hh => by
  unfold cf_driftErr at hh; split at hh
  · have hk := Option.some.inj hh; subst hk; exact k_driftErr ⟨_, _, _, _, _, _⟩
  · cases hh
theorem x_driftErr (b : Bx) : cf_driftErr [.agg [I b.yl, I b.yh, I b.zl, I b.zh, I b.sl, I b.sh]] = some (I (dfE b)) := by
  rfl
def tiR (n : Int) : Prop := 0 ≤ n ∧ n ≤ 1000
instance (n : Int) : Decidable (tiR n) := by unfold tiR; infer_instance
theorem k_isTicks (n : Int) : FOk P 94 [I n] (.bool (decide (tiR n))) := by
  refine c94.fok rfl (Cor.run (addC_good g_within (noC_good _)) (noHx_good _) hm ?_)
  simp +contextual -implicitDefEqProofs (maxSteps := 2000000) only [bg_eq, a94, x_within, tiR, ruB, rh_no, Int.reduceLT, Int.reduceLE, Int.reduceAdd, Int.reduceSub, Int.reduceMul, Int.reduceNeg, Int.reduceToNat, Int.reduceEq, Int.reduceNe, Int.reduceTDiv, Int.reduceTMod, implies_true, putL, appN, appX, appC, Eng.Fi, reduceCtorEq, exists_eq_left', exists_eq_left, if_true, if_false, List.replicate, Nat.reduceAdd, Nat.reduceSub, Nat.reduceMul, Nat.reduceLeDiff, Nat.reduceLT, Nat.reduceEqDiff]
def cf_isTicks : List AV → Option AV
  | [.int .i64 n] => some (.bool (decide (tiR n)))
  | _ => none
theorem g_isTicks : Fn P 94 cf_isTicks := fun args v h => by
  unfold cf_isTicks at h; split at h
  · have h := Option.some.inj h; subst h; exact k_isTicks _
  · cases h
theorem x_isTicks (n : Int) : cf_isTicks [.int .i64 n] = some (.bool (decide (tiR n))) := rfl
def coR (c : Co) : Prop := (((inR (-1000000) 1000000 c.yl c.yh ∧ inR (-1000000) 1000000 c.zl c.zh) ∧ (0 ≤ c.lim ∧ c.lim ≤ 10000)) ∧ tiR c.fr) ∧ tiR c.to
instance (c : Co) : Decidable (coR c) := by unfold coR; infer_instance
def coE (c : Co) : Int := firstE [unl (coR c) 2, unl (c.yl ≤ c.yh) 9, unl (c.zl ≤ c.zh) 9, unl (c.fr ≤ c.to) 9]
theorem k_corridorErr (c : Co) : FOk P 155 [eCo c] (I (coE c)) := by
  refine c155.fok rfl (Cor.run (addC_good g_first (addC_good g_unless (addC_good g_orderErr (addC_good g_isTicks (addC_good g_within (addC_good g_inside (noC_good _))))))) (noHx_good _) hm ?_)
  simp +contextual -implicitDefEqProofs (maxSteps := 2000000) only [bg_eq, a155, x_inside, x_within, x_isTicks, x_orderErr, x_unless, x_first, y_first, coE, coR, ruB, rh_no, Int.reduceLT, Int.reduceLE, Int.reduceAdd, Int.reduceSub, Int.reduceMul, Int.reduceNeg, Int.reduceToNat, Int.reduceEq, Int.reduceNe, Int.reduceTDiv, Int.reduceTMod, implies_true, putL, appN, appX, appC, Eng.Fi, reduceCtorEq, exists_eq_left', exists_eq_left, if_true, if_false, List.replicate, Nat.reduceAdd, Nat.reduceSub, Nat.reduceMul, Nat.reduceLeDiff, Nat.reduceLT, Nat.reduceEqDiff]
def cf_corridorErr : List AV → Option AV
  | [.agg [.int .i64 c_yl, .int .i64 c_yh, .int .i64 c_zl, .int .i64 c_zh, .int .i64 c_lim, .int .i64 c_fr, .int .i64 c_to]] => some (I (coE (⟨c_yl, c_yh, c_zl, c_zh, c_lim, c_fr, c_to⟩ : Co)))
  | _ => none
theorem g_corridorErr : Fn P 155 cf_corridorErr := fun args v hh => by
  unfold cf_corridorErr at hh; split at hh
  · have hk := Option.some.inj hh; subst hk; exact k_corridorErr ⟨_, _, _, _, _, _, _⟩
  · cases hh
theorem x_corridorErr (c : Co) : cf_corridorErr [.agg [I c.yl, I c.yh, I c.zl, I c.zh, I c.lim, I c.fr, I c.to]] = some (I (coE c)) := by
  rfl
def faB (r by' : Rn) (t : Int) : Prop := ((0 ≤ r.lo ∧ r.lo ≤ 1000000) ∧ (0 ≤ r.hi ∧ r.hi ≤ 1000000)) ∧ ((0 ≤ by'.lo ∧ by'.lo ≤ 100) ∧ (0 ≤ by'.hi ∧ by'.hi ≤ 100)) ∧ tiR t
instance (r by' : Rn) (t : Int) : Decidable (faB r by' t) := by unfold faB; infer_instance
theorem k_fallen (r d : Rn) (t : Int) (h : faB r d t) : FOk P 136 [eRn r, eRn d, I t] (eRn ⟨max 0 (r.lo - t * d.hi), max 0 (r.hi - t * d.lo)⟩) := by
  unfold faB tiR at h
  have p1 := mul_bd (a := t) (b := d.hi) (A := 1000) (B := 100) (by omega) (by omega)
  have p2 := mul_bd (a := t) (b := d.lo) (A := 1000) (B := 100) (by omega) (by omega)
  have w1 : IntKind.wrap .i64 (t * d.hi) = t * d.hi := wrap64 (by omega) (by omega)
  have w2 : IntKind.wrap .i64 (t * d.lo) = t * d.lo := wrap64 (by omega) (by omega)
  have w3 : IntKind.wrap .i64 (r.lo - t * d.hi) = r.lo - t * d.hi := wrap64 (by omega) (by omega)
  have w4 : IntKind.wrap .i64 (r.hi - t * d.lo) = r.hi - t * d.lo := wrap64 (by omega) (by omega)
  refine c136.fok rfl (Cor.run (noC_good _) (noHx_good _) hm ?_)
  simp +contextual -implicitDefEqProofs (maxSteps := 2000000) only [bg_eq, a136, w1, w2, w3, w4, ruB, rh_no, Int.reduceLT, Int.reduceLE, Int.reduceAdd, Int.reduceSub, Int.reduceMul, Int.reduceNeg, Int.reduceToNat, Int.reduceEq, Int.reduceNe, Int.reduceTDiv, Int.reduceTMod, implies_true, putL, appN, appX, appC, Eng.Fi, reduceCtorEq, exists_eq_left', exists_eq_left, if_true, if_false, List.replicate, Nat.reduceAdd, Nat.reduceSub, Nat.reduceMul, Nat.reduceLeDiff, Nat.reduceLT, Nat.reduceEqDiff]
def cf_fallen : List AV → Option AV
  | [.agg [.int .i64 r_lo, .int .i64 r_hi], .agg [.int .i64 d_lo, .int .i64 d_hi], .int .i64 t] => if faB (⟨r_lo, r_hi⟩ : Rn) (⟨d_lo, d_hi⟩ : Rn) t then some (eRn ⟨max 0 ((⟨r_lo, r_hi⟩ : Rn).lo - t * (⟨d_lo, d_hi⟩ : Rn).hi), max 0 ((⟨r_lo, r_hi⟩ : Rn).hi - t * (⟨d_lo, d_hi⟩ : Rn).lo)⟩) else none
  | _ => none
theorem g_fallen : Fn P 136 cf_fallen := fun args v hh => by
  unfold cf_fallen at hh; split at hh
  · split at hh
    · rename_i hc; have hk := Option.some.inj hh; subst hk; exact k_fallen ⟨_, _⟩ ⟨_, _⟩ _ hc
    · cases hh
  · cases hh
theorem x_fallen (r : Rn) (d : Rn) (t : Int) (hc : (faB r d t) = True) : cf_fallen [.agg [I r.lo, I r.hi], .agg [I d.lo, I d.hi], .int .i64 t] = some (eRn ⟨max 0 (r.lo - t * d.hi), max 0 (r.hi - t * d.lo)⟩) := by
  exact if_pos (by rw [hc]; trivial)
def afV (b d : Bx) (t : Int) : Bx := ⟨b.yl + t * d.yl, b.yh + t * d.yh, max 0 (b.zl - t * d.zh), max 0 (b.zh - t * d.zl), max 0 (b.sl - t * d.sh), max 0 (b.sh - t * d.sl)⟩
def afB (b d : Bx) (t : Int) : Prop := bxR b ∧ dfR d ∧ tiR t
instance (b d : Bx) (t : Int) : Decidable (afB b d t) := by unfold afB; infer_instance
theorem k_after (b d : Bx) (t : Int) (h : afB b d t) : FOk P 95 [eBx b, eBx d, I t] (eBx (afV b d t)) := by
  have h1 := h
  unfold afB bxR dfR inR tiR at h1
  have y1 := x_fallen ⟨b.zl, b.zh⟩ ⟨d.zl, d.zh⟩ t (by unfold faB tiR; simp only [eq_iff_iff, iff_true]; omega)
  have y2 := x_fallen ⟨b.sl, b.sh⟩ ⟨d.sl, d.sh⟩ t (by unfold faB tiR; simp only [eq_iff_iff, iff_true]; omega)
  simp only at y1 y2
  have p1 := mul_bd (a := t) (b := d.yl) (A := 1000) (B := 100) (by omega) (by omega)
  have p2 := mul_bd (a := t) (b := d.yh) (A := 1000) (B := 100) (by omega) (by omega)
  have w1 : IntKind.wrap .i64 (t * d.yl) = t * d.yl := wrap64 (by omega) (by omega)
  have w2 : IntKind.wrap .i64 (t * d.yh) = t * d.yh := wrap64 (by omega) (by omega)
  have w3 : IntKind.wrap .i64 (b.yl + t * d.yl) = b.yl + t * d.yl := wrap64 (by omega) (by omega)
  have w4 : IntKind.wrap .i64 (b.yh + t * d.yh) = b.yh + t * d.yh := wrap64 (by omega) (by omega)
  refine c95.fok rfl (Cor.run (addC_good g_fallen (noC_good _)) (noHx_good _) hm ?_)
  simp +contextual -implicitDefEqProofs (maxSteps := 2000000) only [bg_eq, a95, w1, w2, w3, w4, y1, y2, afV, ruB, rh_no, Int.reduceLT, Int.reduceLE, Int.reduceAdd, Int.reduceSub, Int.reduceMul, Int.reduceNeg, Int.reduceToNat, Int.reduceEq, Int.reduceNe, Int.reduceTDiv, Int.reduceTMod, implies_true, putL, appN, appX, appC, Eng.Fi, reduceCtorEq, exists_eq_left', exists_eq_left, if_true, if_false, List.replicate, Nat.reduceAdd, Nat.reduceSub, Nat.reduceMul, Nat.reduceLeDiff, Nat.reduceLT, Nat.reduceEqDiff]
def cf_after : List AV → Option AV
  | [.agg [.int .i64 b_yl, .int .i64 b_yh, .int .i64 b_zl, .int .i64 b_zh, .int .i64 b_sl, .int .i64 b_sh], .agg [.int .i64 d_yl, .int .i64 d_yh, .int .i64 d_zl, .int .i64 d_zh, .int .i64 d_sl, .int .i64 d_sh], .int .i64 t] => if afB (⟨b_yl, b_yh, b_zl, b_zh, b_sl, b_sh⟩ : Bx) (⟨d_yl, d_yh, d_zl, d_zh, d_sl, d_sh⟩ : Bx) t then some (eBx (afV (⟨b_yl, b_yh, b_zl, b_zh, b_sl, b_sh⟩ : Bx) (⟨d_yl, d_yh, d_zl, d_zh, d_sl, d_sh⟩ : Bx) t)) else none
  | _ => none
theorem g_after : Fn P 95 cf_after := fun args v hh => by
  unfold cf_after at hh; split at hh
  · split at hh
    · rename_i hc; have hk := Option.some.inj hh; subst hk; exact k_after ⟨_, _, _, _, _, _⟩ ⟨_, _, _, _, _, _⟩ _ hc
    · cases hh
  · cases hh
theorem x_after (b : Bx) (d : Bx) (t : Int) (hc : (afB b d t) = True) : cf_after [.agg [I b.yl, I b.yh, I b.zl, I b.zh, I b.sl, I b.sh], .agg [I d.yl, I d.yh, I d.zl, I d.zh, I d.sl, I d.sh], .int .i64 t] = some (eBx (afV b d t)) := by
  exact if_pos (by rw [hc]; trivial)
def baE (b d : Bx) (t : Int) : Int := firstE [bxE b, dfE d, unl (tiR t) 2]
def zBx : Bx := ⟨0, 0, 0, 0, 0, 0⟩
def baV (b d : Bx) (t : Int) : AV := if baE b d t = 0 then .tup [eBx (afV b d t), I 0] else .tup [eBx zBx, I (baE b d t)]
theorem bxE_z {b : Bx} (h : bxE b = 0) : bxR b ∧ b.yl ≤ b.yh ∧ b.zl ≤ b.zh ∧ b.sl ≤ b.sh := by
  have z := firstE_zero h
  exact ⟨unl_zero (z (unl (bxR b) 2) (by simp)) (by decide), unl_zero (z (unl (b.yl ≤ b.yh) 9) (by simp)) (by decide), unl_zero (z (unl (b.zl ≤ b.zh) 9) (by simp)) (by decide), unl_zero (z (unl (b.sl ≤ b.sh) 9) (by simp)) (by decide)⟩
theorem dfE_z {b : Bx} (h : dfE b = 0) : dfR b ∧ b.yl ≤ b.yh ∧ b.zl ≤ b.zh ∧ b.sl ≤ b.sh := by
  have z := firstE_zero h
  exact ⟨unl_zero (z (unl (dfR b) 2) (by simp)) (by decide), unl_zero (z (unl (b.yl ≤ b.yh) 9) (by simp)) (by decide), unl_zero (z (unl (b.zl ≤ b.zh) 9) (by simp)) (by decide), unl_zero (z (unl (b.sl ≤ b.sh) 9) (by simp)) (by decide)⟩
theorem baE_z {b d : Bx} {t : Int} (h : baE b d t = 0) : afB b d t := by
  have z := firstE_zero h
  exact ⟨(bxE_z (z (bxE b) (by simp))).1, (dfE_z (z (dfE d) (by simp))).1, unl_zero (z (unl (tiR t) 2) (by simp)) (by decide)⟩
theorem k_BoxAfter (b d : Bx) (t : Int) : FOk P 25 [eBx b, eBx d, I t] (baV b d t) := by
  have y1 := x_CheckBox b
  have y2 := x_driftErr d
  by_cases h0 : baE b d t = 0
  · have y := x_after b d t (by simp only [baE_z h0])
    rw [baV, if_pos h0]
    refine c25.fok rfl (Cor.run (addC_good g_after (addC_good g_first (addC_good g_unless (addC_good g_isTicks (addC_good g_driftErr (addC_good g_CheckBox (noC_good _))))))) (noHx_good _) hm ?_)
    have h1 := h0
    unfold baE at h1
    simp +contextual -implicitDefEqProofs (maxSteps := 2000000) only [bg_eq, a25, y1, y2, x_isTicks, x_unless, x_first, y_first, y, h1, not_true_eq_false, ruB, rh_no, Int.reduceLT, Int.reduceLE, Int.reduceAdd, Int.reduceSub, Int.reduceMul, Int.reduceNeg, Int.reduceToNat, Int.reduceEq, Int.reduceNe, Int.reduceTDiv, Int.reduceTMod, implies_true, putL, appN, appX, appC, Eng.Fi, reduceCtorEq, exists_eq_left', exists_eq_left, if_true, if_false, List.replicate, Nat.reduceAdd, Nat.reduceSub, Nat.reduceMul, Nat.reduceLeDiff, Nat.reduceLT, Nat.reduceEqDiff]
  · rw [baV, if_neg h0]
    refine c25.fok rfl (Cor.run (addC_good g_after (addC_good g_first (addC_good g_unless (addC_good g_isTicks (addC_good g_driftErr (addC_good g_CheckBox (noC_good _))))))) (noHx_good _) hm ?_)
    unfold baE at h0 ⊢
    simp +contextual -implicitDefEqProofs (maxSteps := 2000000) only [bg_eq, a25, y1, y2, x_isTicks, x_unless, x_first, y_first, h0, zBx, not_false_eq_true, ruB, rh_no, Int.reduceLT, Int.reduceLE, Int.reduceAdd, Int.reduceSub, Int.reduceMul, Int.reduceNeg, Int.reduceToNat, Int.reduceEq, Int.reduceNe, Int.reduceTDiv, Int.reduceTMod, implies_true, putL, appN, appX, appC, Eng.Fi, reduceCtorEq, exists_eq_left', exists_eq_left, if_true, if_false, List.replicate, Nat.reduceAdd, Nat.reduceSub, Nat.reduceMul, Nat.reduceLeDiff, Nat.reduceLT, Nat.reduceEqDiff]
def cf_BoxAfter : List AV → Option AV
  | [.agg [.int .i64 b_yl, .int .i64 b_yh, .int .i64 b_zl, .int .i64 b_zh, .int .i64 b_sl, .int .i64 b_sh], .agg [.int .i64 d_yl, .int .i64 d_yh, .int .i64 d_zl, .int .i64 d_zh, .int .i64 d_sl, .int .i64 d_sh], .int .i64 t] => some (baV (⟨b_yl, b_yh, b_zl, b_zh, b_sl, b_sh⟩ : Bx) (⟨d_yl, d_yh, d_zl, d_zh, d_sl, d_sh⟩ : Bx) t)
  | _ => none
theorem g_BoxAfter : Fn P 25 cf_BoxAfter := fun args v hh => by
  unfold cf_BoxAfter at hh; split at hh
  · have hk := Option.some.inj hh; subst hk; exact k_BoxAfter ⟨_, _, _, _, _, _⟩ ⟨_, _, _, _, _, _⟩ _
  · cases hh
theorem x_BoxAfter (b : Bx) (d : Bx) (t : Int) : cf_BoxAfter [.agg [I b.yl, I b.yh, I b.zl, I b.zh, I b.sl, I b.sh], .agg [I d.yl, I d.yh, I d.zl, I d.zh, I d.sl, I d.sh], .int .i64 t] = some (baV b d t) := by
  rfl
theorem k_meet (a b c d : Int) : FOk P 96 [eRn ⟨a, b⟩, eRn ⟨c, d⟩] (.tup [eRn ⟨max a c, min b d⟩, .bool (decide (max a c ≤ min b d))]) := by
  refine c96.fok rfl (Cor.run (noC_good _) (noHx_good _) hm ?_)
  simp +contextual -implicitDefEqProofs (maxSteps := 2000000) only [bg_eq, a96, ruB, rh_no, Int.reduceLT, Int.reduceLE, Int.reduceAdd, Int.reduceSub, Int.reduceMul, Int.reduceNeg, Int.reduceToNat, Int.reduceEq, Int.reduceNe, Int.reduceTDiv, Int.reduceTMod, implies_true, putL, appN, appX, appC, Eng.Fi, reduceCtorEq, exists_eq_left', exists_eq_left, if_true, if_false, List.replicate, Nat.reduceAdd, Nat.reduceSub, Nat.reduceMul, Nat.reduceLeDiff, Nat.reduceLT, Nat.reduceEqDiff]
def cf_meet : List AV → Option AV
  | [.agg [.int .i64 a, .int .i64 b], .agg [.int .i64 c, .int .i64 d]] => some (.tup [eRn ⟨max a c, min b d⟩, .bool (decide (max a c ≤ min b d))])
  | _ => none
theorem g_meet : Fn P 96 cf_meet := fun args v h => by
  unfold cf_meet at h; split at h
  · have h := Option.some.inj h; subst h; exact k_meet _ _ _ _
  · cases h
theorem x_meet (a b c d : Int) : cf_meet [.agg [.int .i64 a, .int .i64 b], .agg [.int .i64 c, .int .i64 d]] = some (.tup [eRn ⟨max a c, min b d⟩, .bool (decide (max a c ≤ min b d))]) := rfl
end Wa
open Go Go.Proofs Eng
set_option maxRecDepth 100000
set_option linter.unusedSimpArgs false
set_option linter.unusedVariables false
namespace Wa
end Wa
open Go Go.Proofs Eng
set_option maxRecDepth 100000
set_option linter.unusedSimpArgs false
set_option linter.unusedVariables false
namespace Wa
def toP (b : Bx) (c : Co) : Prop := (max b.yl c.yl ≤ min b.yh c.yh ∧ max b.zl c.zl ≤ min b.zh c.zh) ∧ c.lim ≤ b.sh
instance (b : Bx) (c : Co) : Decidable (toP b c) := by unfold toP; infer_instance
theorem k_touches (b : Bx) (c : Co) : FOk P 128 [eBx b, eCo c] (.bool (decide (toP b c))) := by
  refine c128.fok rfl (Cor.run (addC_good g_meet (noC_good _)) (noHx_good _) hm ?_)
  simp +contextual -implicitDefEqProofs (maxSteps := 2000000) only [bg_eq, a128, x_meet, toP, ruB, rh_no, Int.reduceLT, Int.reduceLE, Int.reduceAdd, Int.reduceSub, Int.reduceMul, Int.reduceNeg, Int.reduceToNat, Int.reduceEq, Int.reduceNe, Int.reduceTDiv, Int.reduceTMod, implies_true, putL, appN, appX, appC, Eng.Fi, reduceCtorEq, exists_eq_left', exists_eq_left, if_true, if_false, List.replicate, Nat.reduceAdd, Nat.reduceSub, Nat.reduceMul, Nat.reduceLeDiff, Nat.reduceLT, Nat.reduceEqDiff]
def cf_touches : List AV → Option AV
  | [.agg [.int .i64 b_yl, .int .i64 b_yh, .int .i64 b_zl, .int .i64 b_zh, .int .i64 b_sl, .int .i64 b_sh], .agg [.int .i64 c_yl, .int .i64 c_yh, .int .i64 c_zl, .int .i64 c_zh, .int .i64 c_lim, .int .i64 c_fr, .int .i64 c_to]] => some (.bool (decide (toP (⟨b_yl, b_yh, b_zl, b_zh, b_sl, b_sh⟩ : Bx) (⟨c_yl, c_yh, c_zl, c_zh, c_lim, c_fr, c_to⟩ : Co))))
  | _ => none
theorem g_touches : Fn P 128 cf_touches := fun args v hh => by
  unfold cf_touches at hh; split at hh
  · have hk := Option.some.inj hh; subst hk; exact k_touches ⟨_, _, _, _, _, _⟩ ⟨_, _, _, _, _, _, _⟩
  · cases hh
theorem x_touches (b : Bx) (c : Co) : cf_touches [.agg [I b.yl, I b.yh, I b.zl, I b.zh, I b.sl, I b.sh], .agg [I c.yl, I c.yh, I c.zl, I c.zh, I c.lim, I c.fr, I c.to]] = some (.bool (decide (toP b c))) := by
  rfl
def ocE (b d : Bx) (c : Co) : Int := firstE [bxE b, dfE d, coE c]
theorem k_openCorridor (b d : Bx) (c : Co) : FOk P 126 [eBx b, eBx d, eCo c] (I (ocE b d c)) := by
  have y1 := x_CheckBox b
  have y2 := x_driftErr d
  have y3 := x_corridorErr c
  refine c126.fok rfl (Cor.run (addC_good g_first (addC_good g_corridorErr (addC_good g_driftErr (addC_good g_CheckBox (noC_good _))))) (noHx_good _) hm ?_)
  simp +contextual -implicitDefEqProofs (maxSteps := 2000000) only [bg_eq, a126, y1, y2, y3, x_first, y_first, ocE, ruB, rh_no, Int.reduceLT, Int.reduceLE, Int.reduceAdd, Int.reduceSub, Int.reduceMul, Int.reduceNeg, Int.reduceToNat, Int.reduceEq, Int.reduceNe, Int.reduceTDiv, Int.reduceTMod, implies_true, putL, appN, appX, appC, Eng.Fi, reduceCtorEq, exists_eq_left', exists_eq_left, if_true, if_false, List.replicate, Nat.reduceAdd, Nat.reduceSub, Nat.reduceMul, Nat.reduceLeDiff, Nat.reduceLT, Nat.reduceEqDiff]
def cf_openCorridor : List AV → Option AV
  | [.agg [.int .i64 b_yl, .int .i64 b_yh, .int .i64 b_zl, .int .i64 b_zh, .int .i64 b_sl, .int .i64 b_sh], .agg [.int .i64 d_yl, .int .i64 d_yh, .int .i64 d_zl, .int .i64 d_zh, .int .i64 d_sl, .int .i64 d_sh], .agg [.int .i64 c_yl, .int .i64 c_yh, .int .i64 c_zl, .int .i64 c_zh, .int .i64 c_lim, .int .i64 c_fr, .int .i64 c_to]] => some (I (ocE (⟨b_yl, b_yh, b_zl, b_zh, b_sl, b_sh⟩ : Bx) (⟨d_yl, d_yh, d_zl, d_zh, d_sl, d_sh⟩ : Bx) (⟨c_yl, c_yh, c_zl, c_zh, c_lim, c_fr, c_to⟩ : Co)))
  | _ => none
theorem g_openCorridor : Fn P 126 cf_openCorridor := fun args v hh => by
  unfold cf_openCorridor at hh; split at hh
  · have hk := Option.some.inj hh; subst hk; exact k_openCorridor ⟨_, _, _, _, _, _⟩ ⟨_, _, _, _, _, _⟩ ⟨_, _, _, _, _, _, _⟩
  · cases hh
theorem x_openCorridor (b : Bx) (d : Bx) (c : Co) : cf_openCorridor [.agg [I b.yl, I b.yh, I b.zl, I b.zh, I b.sl, I b.sh], .agg [I d.yl, I d.yh, I d.zl, I d.zh, I d.sl, I d.sh], .agg [I c.yl, I c.yh, I c.zl, I c.zh, I c.lim, I c.fr, I c.to]] = some (I (ocE b d c)) := by
  rfl
end Wa
