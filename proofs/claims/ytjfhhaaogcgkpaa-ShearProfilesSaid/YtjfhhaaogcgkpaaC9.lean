import Derived.Test.YtjfhhaaogcgkpaaEngS9
import Derived.Test.YtjfhhaaogcgkpaaC8
open Go Go.Proofs Eng
set_option maxRecDepth 100000
set_option linter.unusedSimpArgs false
set_option linter.unusedVariables false
def a22 : AC := .seq (.ops false [] [⟨some 2, .p (.mov), [.c (.int .i64 0)], none⟩, ⟨some 3, .p (.mov), [.c (.int .i64 0)], none⟩]) (.seq (.seq (.ops false [] [⟨some 5, .p (.mov), [.t 0], none⟩, ⟨some 6, .p (.lenS), [.t 5], none⟩, ⟨some 7, .p (.binI .gtr), [.t 6, .c (.int .i64 40)], none⟩]) (.cond (.t 7) (.seq (.ops false [] [⟨some 2, .p (.mov), [.c (.int .i64 0)], none⟩, ⟨some 3, .p (.mov), [.c (.int .i64 8)], none⟩]) (.ret)) (.skip))) (.seq (.ops false [] [⟨some 4, .alloc 3 1 [.int .i64 0], [], none⟩, ⟨none, .store 1 false, [.t 4, .c (.int .i64 (-1))], none⟩]) (.seq (.ops false [] [⟨some 8, .p (.mov), [.t 0], none⟩, ⟨some 9, .p (.mkfn 88 0), [.t 4], none⟩, ⟨some 10, .call 87, [.t 8, .t 9], none⟩, ⟨some 11, .p (.ext 0), [.t 10], none⟩, ⟨some 12, .p (.ext 1), [.t 10], none⟩, ⟨some 2, .p (.mov), [.t 11], none⟩, ⟨some 3, .p (.mov), [.t 12], none⟩]) (.ret))))
theorem c22 : FnC Try.prog 22 13 a22 [.tmp 2, .tmp 3] := ⟨Try.call22, _, _, Try.func22, rfl, by kernel_rfl, by kernel_rfl, rfl⟩
def a48 : AC := .seq (.ops false [] [⟨some 1, .box 40 4 1 true, [.t 0], none⟩, ⟨some 2, .p (.mov), [.c (.int .i64 0)], none⟩]) (.seq (.ops false [] [⟨some 4, .p (.faddr 0), [.t 1], none⟩, ⟨some 5, .load 1 false, [.t 4], none⟩, ⟨some 6, .call 107, [.t 5, .c (.int .i64 1), .c (.int .i64 20000)], none⟩, ⟨some 7, .p (.mov), [.t 6], none⟩, ⟨some 8, .p (.faddr 1), [.t 1], some (7, true)⟩, ⟨some 9, .load 1 false, [.t 8], some (7, true)⟩, ⟨some 10, .call 107, [.t 9, .c (.int .i64 0), .c (.int .i64 20000)], some (7, true)⟩, ⟨some 11, .p (.pick), [.t 7, .t 10, .c (.bool false)], none⟩, ⟨some 12, .p (.mov), [.t 11], none⟩, ⟨some 13, .p (.faddr 2), [.t 1], some (12, true)⟩, ⟨some 14, .load 1 false, [.t 13], some (12, true)⟩, ⟨some 15, .call 107, [.t 14, .c (.int .i64 0), .c (.int .i64 100000)], some (12, true)⟩, ⟨some 16, .p (.pick), [.t 12, .t 15, .c (.bool false)], none⟩, ⟨some 17, .p (.mov), [.t 16], none⟩, ⟨some 18, .p (.faddr 3), [.t 1], some (17, true)⟩, ⟨some 19, .load 1 false, [.t 18], some (17, true)⟩, ⟨some 20, .call 107, [.t 19, .c (.int .i64 1), .c (.int .i64 100000)], some (17, true)⟩, ⟨some 21, .p (.pick), [.t 17, .t 20, .c (.bool false)], none⟩, ⟨some 3, .p (.mov), [.t 21], none⟩]) (.seq (.ops true [] [⟨some 22, .p (.mov), [.t 3], none⟩, ⟨some 23, .call 85, [.t 22, .c (.int .i64 2)], none⟩, ⟨some 24, .p (.faddr 1), [.t 1], none⟩, ⟨some 25, .load 1 false, [.t 24], none⟩, ⟨some 26, .p (.faddr 0), [.t 1], none⟩, ⟨some 27, .load 1 false, [.t 26], none⟩, ⟨some 28, .p (.binI .leq), [.t 25, .t 27], none⟩, ⟨some 29, .call 85, [.t 28, .c (.int .i64 9)], none⟩, ⟨some 30, .fbs 1, [.t 23, .t 29], none⟩, ⟨some 31, .call 84, [.t 30], none⟩, ⟨some 2, .p (.mov), [.t 31], none⟩]) (.ret)))
theorem c48 : FnC Try.prog 48 32 a48 [.tmp 2] := ⟨Try.call48, _, _, Try.func48, rfl, by kernel_rfl, by kernel_rfl, rfl⟩
def a87 : AC := .seq (.ops false [] [⟨some 4, .p (.mov), [.c (.int .i64 0)], none⟩, ⟨some 5, .p (.mov), [.c (.int .i64 0)], none⟩]) (.seq (.seq (.ops false [] [⟨some 9, .p (.mov), [.t 0], none⟩, ⟨some 10, .p (.lenS), [.t 9], none⟩, ⟨some 11, .p (.mov), [.c (.int .i64 0)], none⟩]) (.block 0 (.loop (.seq (.ops false [] [⟨some 12, .p (.binI .lss), [.t 11, .t 10], none⟩]) (.seq (.cond (.t 12) (.skip) (.exit 0)) (.seq (.block 1 (.seq (.ops false [] [⟨some 13, .p (.mov), [.t 11], none⟩, ⟨some 14, .p (.iaddrS 3), [.t 9, .t 11], none⟩, ⟨some 15, .load 3 true, [.t 14], none⟩, ⟨some 7, .alloc 66 3 [.agg [.int .i64 0, .int .i64 0, .int .i64 0]], [], none⟩, ⟨some 6, .p (.mov), [.t 13], none⟩, ⟨none, .store 3 true, [.t 7, .t 15], none⟩]) (.seq (.ops false [] [⟨some 16, .p (.mov), [.t 1], none⟩, ⟨some 17, .p (.mov), [.t 6], none⟩, ⟨some 18, .load 3 true, [.t 7], none⟩, ⟨some 19, .callv, [.t 16, .t 17, .t 18], none⟩, ⟨some 8, .p (.mov), [.t 19], none⟩]) (.seq (.ops false [] [⟨some 20, .p (.mov), [.t 8], none⟩, ⟨some 21, .p (.binI .neq), [.t 20, .c (.int .i64 0)], none⟩]) (.cond (.t 21) (.seq (.ops false [] [⟨some 22, .p (.mov), [.t 6], none⟩, ⟨some 23, .p (.mov), [.t 8], none⟩, ⟨some 4, .p (.mov), [.t 22], none⟩, ⟨some 5, .p (.mov), [.t 23], none⟩]) (.ret)) (.skip)))))) (.ops false [] [⟨some 24, .p (.binI .add), [.t 11, .c (.int .i64 1)], none⟩, ⟨some 11, .p (.mov), [.t 24], none⟩]))))))) (.seq (.ops false [] [⟨some 4, .p (.mov), [.c (.int .i64 0)], none⟩, ⟨some 5, .p (.mov), [.c (.int .i64 0)], none⟩]) (.ret)))
theorem c87 : FnC Try.prog 87 25 a87 [.tmp 4, .tmp 5] := ⟨Try.call87, _, _, Try.func87, rfl, by kernel_rfl, by kernel_rfl, rfl⟩
def a88 : AC := .seq (.ops false [] [⟨some 4, .box 66 3 1 true, [.t 1], none⟩, ⟨some 5, .p (.mov), [.c (.int .i64 0)], none⟩]) (.seq (.ops true [] [⟨some 7, .load 3 true, [.t 4], none⟩, ⟨some 8, .call 89, [.t 7], none⟩, ⟨some 9, .p (.faddr 0), [.t 4], none⟩, ⟨some 10, .load 1 false, [.t 9], none⟩, ⟨some 11, .load 1 false, [.t 2], none⟩, ⟨some 12, .p (.binI .gtr), [.t 10, .t 11], none⟩, ⟨some 13, .call 85, [.t 12, .c (.int .i64 9)], none⟩, ⟨some 14, .fbs 1, [.t 8, .t 13], none⟩, ⟨some 15, .call 84, [.t 14], none⟩, ⟨some 6, .p (.mov), [.t 15], none⟩]) (.seq (.ops false [] [⟨some 16, .p (.faddr 0), [.t 4], none⟩, ⟨some 17, .load 1 false, [.t 16], none⟩, ⟨none, .store 1 false, [.t 2, .t 17], none⟩]) (.seq (.ops false [] [⟨some 18, .p (.mov), [.t 6], none⟩, ⟨some 5, .p (.mov), [.t 18], none⟩]) (.ret))))
theorem c88 : FnC Try.prog 88 19 a88 [.tmp 5] := ⟨Try.call88, _, _, Try.func88, rfl, by kernel_rfl, by kernel_rfl, rfl⟩
def a89 : AC := .seq (.ops false [] [⟨some 1, .box 66 3 1 true, [.t 0], none⟩, ⟨some 2, .p (.mov), [.c (.int .i64 0)], none⟩]) (.seq (.ops false [] [⟨some 4, .p (.faddr 1), [.t 1], none⟩, ⟨some 5, .load 2 true, [.t 4], none⟩, ⟨some 3, .alloc 164 2 [.agg [.int .i64 0, .int .i64 0]], [], none⟩, ⟨none, .store 2 true, [.t 3, .t 5], none⟩]) (.seq (.ops true [] [⟨some 6, .p (.faddr 0), [.t 1], none⟩, ⟨some 7, .load 1 false, [.t 6], none⟩, ⟨some 8, .call 91, [.t 7], none⟩, ⟨some 9, .p (.mov), [.t 8], none⟩, ⟨some 10, .load 2 true, [.t 3], some (9, true)⟩, ⟨some 11, .call 111, [.t 10, .c (.int .i64 20000)], some (9, true)⟩, ⟨some 12, .p (.pick), [.t 9, .t 11, .c (.bool false)], none⟩, ⟨some 13, .call 85, [.t 12, .c (.int .i64 2)], none⟩, ⟨some 14, .load 2 true, [.t 3], none⟩, ⟨some 15, .call 101, [.t 14], none⟩, ⟨some 16, .fbs 1, [.t 13, .t 15], none⟩, ⟨some 17, .call 84, [.t 16], none⟩, ⟨some 2, .p (.mov), [.t 17], none⟩]) (.ret)))
theorem c89 : FnC Try.prog 89 18 a89 [.tmp 2] := ⟨Try.call89, _, _, Try.func89, rfl, by kernel_rfl, by kernel_rfl, rfl⟩
def a91 : AC := .seq (.ops false [] [⟨some 2, .p (.mov), [.c (.bool false)], none⟩]) (.seq (.ops false [] [⟨some 3, .p (.mov), [.t 0], none⟩, ⟨some 4, .call 107, [.t 3, .c (.int .i64 0), .c (.int .i64 1000000000000)], none⟩, ⟨some 2, .p (.mov), [.t 4], none⟩]) (.ret))
theorem c91 : FnC Try.prog 91 5 a91 [.tmp 2] := ⟨Try.call91, _, _, Try.func91, rfl, by kernel_rfl, by kernel_rfl, rfl⟩
def a92 : AC := .seq (.ops false [] [⟨some 1, .box 40 4 1 true, [.t 0], none⟩, ⟨some 2, .p (.mov), [.c (.nilptr)], none⟩]) (.seq (.ops false [] [⟨some 3, .load 4 true, [.t 1], none⟩, ⟨some 4, .p (.build [.bool false, .int .i64 0, .int .i64 0, .int .i64 0, .int .i64 0] [(3, 1), (4, 1)]), [.c (.int .i64 (-1)), .c (.int .i64 (-1))], none⟩, ⟨some 5, .p (.build [.int .i64 0, .int .i64 0, .int .i64 0, .int .i64 0, .bool false, .int .i64 0, .int .i64 0, .int .i64 0, .int .i64 0] [(0, 4), (4, 5)]), [.t 3, .t 4], none⟩, ⟨some 6, .box 160 9 1 true, [.t 5], none⟩, ⟨some 2, .p (.mov), [.t 6], none⟩]) (.ret))
theorem c92 : FnC Try.prog 92 7 a92 [.tmp 2] := ⟨Try.call92, _, _, Try.func92, rfl, by kernel_rfl, by kernel_rfl, rfl⟩
def a93 : AC := .seq (.ops false [] [⟨some 3, .box 66 3 1 true, [.t 1], none⟩, ⟨some 4, .p (.mov), [.c (.int .i64 0)], none⟩]) (.seq (.ops false [] [⟨some 5, .p (.mov), [.t 0], none⟩, ⟨some 6, .p (.faddr 0), [.t 3], none⟩, ⟨some 7, .load 1 false, [.t 6], none⟩, ⟨some 8, .call 94, [.t 5, .t 7], none⟩]) (.seq (.seq (.ops false [] [⟨some 9, .p (.mov), [.t 0], none⟩, ⟨some 10, .p (.nilck), [.t 9], none⟩, ⟨some 11, .p (.faddr 4), [.t 10], none⟩, ⟨some 12, .p (.faddr 0), [.t 11], none⟩, ⟨some 13, .load 1 false, [.t 12], none⟩]) (.cond (.t 13) (.seq (.block 0 (.seq (.ops true [] [⟨some 15, .p (.faddr 1), [.t 3], none⟩, ⟨some 16, .p (.faddr 1), [.t 15], none⟩, ⟨some 17, .load 1 false, [.t 16], none⟩, ⟨some 18, .p (.mov), [.t 0], none⟩, ⟨some 19, .p (.nilck), [.t 18], none⟩, ⟨some 20, .p (.faddr 0), [.t 19], none⟩, ⟨some 21, .p (.faddr 1), [.t 20], none⟩, ⟨some 22, .load 1 false, [.t 21], none⟩, ⟨some 23, .p (.binI .geq), [.t 17, .t 22], none⟩, ⟨some 14, .p (.mov), [.t 23], none⟩]) (.cond (.t 14) (.ops false [] [⟨some 24, .p (.mov), [.t 0], none⟩, ⟨some 25, .p (.nilck), [.t 24], none⟩, ⟨some 26, .p (.faddr 4), [.t 25], none⟩, ⟨some 27, .p (.faddr 4), [.t 26], none⟩, ⟨none, .store 1 false, [.t 27, .c (.int .i64 (-1))], none⟩]) (.seq (.ops false [] [⟨some 29, .p (.mov), [.t 0], none⟩, ⟨some 30, .p (.nilck), [.t 29], none⟩, ⟨some 31, .p (.faddr 4), [.t 30], none⟩, ⟨some 32, .p (.faddr 4), [.t 31], none⟩, ⟨some 33, .load 1 false, [.t 32], none⟩, ⟨some 34, .p (.binI .eql), [.t 33, .c (.int .i64 (-1))], none⟩, ⟨some 28, .p (.mov), [.t 34], none⟩]) (.cond (.t 28) (.ops false [] [⟨some 35, .p (.mov), [.t 0], none⟩, ⟨some 36, .p (.faddr 0), [.t 3], none⟩, ⟨some 37, .load 1 false, [.t 36], none⟩, ⟨some 38, .p (.nilck), [.t 35], none⟩, ⟨some 39, .p (.faddr 4), [.t 38], none⟩, ⟨some 40, .p (.faddr 4), [.t 39], none⟩, ⟨none, .store 1 false, [.t 40, .t 37], none⟩]) (.skip)))))) (.seq (.ops true [] [⟨some 41, .p (.mov), [.t 0], none⟩, ⟨some 42, .p (.nilck), [.t 41], none⟩, ⟨some 43, .p (.faddr 4), [.t 42], none⟩, ⟨some 44, .p (.faddr 4), [.t 43], none⟩, ⟨some 45, .load 1 false, [.t 44], none⟩, ⟨some 46, .p (.binI .neq), [.t 45, .c (.int .i64 (-1))], none⟩, ⟨some 47, .p (.mov), [.t 46], none⟩, ⟨some 48, .p (.faddr 0), [.t 3], some (47, true)⟩, ⟨some 49, .load 1 false, [.t 48], some (47, true)⟩, ⟨some 50, .p (.mov), [.t 0], some (47, true)⟩, ⟨some 51, .p (.nilck), [.t 50], some (47, true)⟩, ⟨some 52, .p (.faddr 4), [.t 51], some (47, true)⟩, ⟨some 53, .p (.faddr 4), [.t 52], some (47, true)⟩, ⟨some 54, .load 1 false, [.t 53], some (47, true)⟩, ⟨some 55, .p (.binI .sub), [.t 49, .t 54], some (47, true)⟩, ⟨some 56, .p (.mov), [.t 0], some (47, true)⟩, ⟨some 57, .p (.nilck), [.t 56], some (47, true)⟩, ⟨some 58, .p (.faddr 0), [.t 57], some (47, true)⟩, ⟨some 59, .p (.faddr 2), [.t 58], some (47, true)⟩, ⟨some 60, .load 1 false, [.t 59], some (47, true)⟩, ⟨some 61, .p (.binI .geq), [.t 55, .t 60], some (47, true)⟩, ⟨some 62, .p (.pick), [.t 47, .t 61, .c (.bool false)], none⟩]) (.cond (.t 62) (.ops false [] [⟨some 63, .p (.mov), [.t 0], none⟩, ⟨some 64, .call 128, [.t 63], none⟩]) (.skip)))) (.skip))) (.seq (.seq (.ops true [] [⟨some 65, .p (.mov), [.t 0], none⟩, ⟨some 66, .p (.nilck), [.t 65], none⟩, ⟨some 67, .p (.faddr 4), [.t 66], none⟩, ⟨some 68, .p (.faddr 0), [.t 67], none⟩, ⟨some 69, .load 1 false, [.t 68], none⟩, ⟨some 70, .p (.notB), [.t 69], none⟩, ⟨some 71, .p (.mov), [.t 70], none⟩, ⟨some 72, .p (.faddr 1), [.t 3], some (71, true)⟩, ⟨some 73, .p (.faddr 0), [.t 72], some (71, true)⟩, ⟨some 74, .load 1 false, [.t 73], some (71, true)⟩, ⟨some 75, .p (.mov), [.t 0], some (71, true)⟩, ⟨some 76, .p (.nilck), [.t 75], some (71, true)⟩, ⟨some 77, .p (.faddr 0), [.t 76], some (71, true)⟩, ⟨some 78, .p (.faddr 0), [.t 77], some (71, true)⟩, ⟨some 79, .load 1 false, [.t 78], some (71, true)⟩, ⟨some 80, .p (.binI .geq), [.t 74, .t 79], some (71, true)⟩, ⟨some 81, .p (.pick), [.t 71, .t 80, .c (.bool false)], none⟩]) (.cond (.t 81) (.seq (.seq (.ops false [] [⟨some 82, .p (.mov), [.t 0], none⟩, ⟨some 83, .p (.nilck), [.t 82], none⟩, ⟨some 84, .p (.faddr 4), [.t 83], none⟩, ⟨some 85, .p (.faddr 1), [.t 84], none⟩, ⟨some 86, .load 1 false, [.t 85], none⟩, ⟨some 87, .p (.binI .eql), [.t 86, .c (.int .i64 62500)], none⟩]) (.cond (.t 87) (.seq (.ops false [] [⟨some 4, .p (.mov), [.c (.int .i64 15)], none⟩]) (.ret)) (.skip))) (.ops true [(4, 14)] [⟨some 88, .p (.mov), [.t 0], none⟩, ⟨some 89, .p (.mov), [.t 0], none⟩, ⟨some 90, .p (.mov), [.t 0], none⟩, ⟨some 91, .p (.faddr 0), [.t 3], none⟩, ⟨some 92, .load 1 false, [.t 91], none⟩, ⟨some 93, .p (.mov), [.t 0], none⟩, ⟨some 94, .p (.nilck), [.t 93], none⟩, ⟨some 95, .p (.faddr 4), [.t 94], none⟩, ⟨some 96, .p (.faddr 1), [.t 95], none⟩, ⟨some 97, .load 1 false, [.t 96], none⟩, ⟨some 98, .p (.binI .add), [.t 97, .c (.int .i64 1)], none⟩, ⟨some 99, .p (.nilck), [.t 88], none⟩, ⟨some 100, .p (.faddr 4), [.t 99], none⟩, ⟨some 101, .p (.faddr 0), [.t 100], none⟩, ⟨none, .store 1 false, [.t 101, .c (.bool true)], none⟩, ⟨some 102, .p (.nilck), [.t 89], none⟩, ⟨some 103, .p (.faddr 4), [.t 102], none⟩, ⟨some 104, .p (.faddr 2), [.t 103], none⟩, ⟨none, .store 1 false, [.t 104, .t 92], none⟩, ⟨some 105, .p (.nilck), [.t 90], none⟩, ⟨some 106, .p (.faddr 4), [.t 105], none⟩, ⟨some 107, .p (.faddr 1), [.t 106], none⟩, ⟨none, .store 1 false, [.t 107, .t 98], none⟩])) (.skip))) (.seq (.ops false [] [⟨some 108, .p (.mov), [.t 0], none⟩, ⟨some 109, .p (.faddr 0), [.t 3], none⟩, ⟨some 110, .load 1 false, [.t 109], none⟩, ⟨some 111, .p (.nilck), [.t 108], none⟩, ⟨some 112, .p (.faddr 4), [.t 111], none⟩, ⟨some 113, .p (.faddr 3), [.t 112], none⟩, ⟨none, .store 1 false, [.t 113, .t 110], none⟩]) (.seq (.ops false [] [⟨some 4, .p (.mov), [.c (.int .i64 0)], none⟩]) (.ret))))))
theorem c93 : FnC Try.prog 93 114 a93 [.tmp 4] := ⟨Try.call93, _, _, Try.func93, rfl, by kernel_rfl, by kernel_rfl, rfl⟩
def a94 : AC := .seq (.ops true [] [⟨some 4, .p (.mov), [.t 0], none⟩, ⟨some 5, .p (.nilck), [.t 4], none⟩, ⟨some 6, .p (.faddr 4), [.t 5], none⟩, ⟨some 7, .p (.faddr 0), [.t 6], none⟩, ⟨some 8, .load 1 false, [.t 7], none⟩, ⟨some 9, .p (.mov), [.t 8], none⟩, ⟨some 10, .p (.mov), [.t 1], some (9, true)⟩, ⟨some 11, .p (.mov), [.t 0], some (9, true)⟩, ⟨some 12, .p (.nilck), [.t 11], some (9, true)⟩, ⟨some 13, .p (.faddr 4), [.t 12], some (9, true)⟩, ⟨some 14, .p (.faddr 3), [.t 13], some (9, true)⟩, ⟨some 15, .load 1 false, [.t 14], some (9, true)⟩, ⟨some 16, .p (.binI .sub), [.t 10, .t 15], some (9, true)⟩, ⟨some 17, .p (.mov), [.t 0], some (9, true)⟩, ⟨some 18, .p (.nilck), [.t 17], some (9, true)⟩, ⟨some 19, .p (.faddr 0), [.t 18], some (9, true)⟩, ⟨some 20, .p (.faddr 3), [.t 19], some (9, true)⟩, ⟨some 21, .load 1 false, [.t 20], some (9, true)⟩, ⟨some 22, .p (.binI .gtr), [.t 16, .t 21], some (9, true)⟩, ⟨some 23, .p (.pick), [.t 9, .t 22, .c (.bool false)], none⟩]) (.cond (.t 23) (.ops false [] [⟨some 24, .p (.mov), [.t 0], none⟩, ⟨some 25, .call 128, [.t 24], none⟩]) (.skip))
theorem c94 : FnC Try.prog 94 26 a94 [] := ⟨Try.call94, _, _, Try.func94, rfl, by kernel_rfl, by kernel_rfl, rfl⟩
def a128 : AC := .ops false [] [⟨some 2, .p (.mov), [.t 0], none⟩, ⟨some 3, .p (.mov), [.t 0], none⟩, ⟨some 4, .p (.mov), [.t 0], none⟩, ⟨some 5, .p (.nilck), [.t 2], none⟩, ⟨some 6, .p (.faddr 4), [.t 5], none⟩, ⟨some 7, .p (.faddr 0), [.t 6], none⟩, ⟨none, .store 1 false, [.t 7, .c (.bool false)], none⟩, ⟨some 8, .p (.nilck), [.t 3], none⟩, ⟨some 9, .p (.faddr 4), [.t 8], none⟩, ⟨some 10, .p (.faddr 2), [.t 9], none⟩, ⟨none, .store 1 false, [.t 10, .c (.int .i64 0)], none⟩, ⟨some 11, .p (.nilck), [.t 4], none⟩, ⟨some 12, .p (.faddr 4), [.t 11], none⟩, ⟨some 13, .p (.faddr 4), [.t 12], none⟩, ⟨none, .store 1 false, [.t 13, .c (.int .i64 (-1))], none⟩]
theorem c128 : FnC Try.prog 128 14 a128 [] := ⟨Try.call128, _, _, Try.func128, rfl, by kernel_rfl, by kernel_rfl, rfl⟩
namespace Sh

/-! watches -/
structure Rl where
  raise : Int
  clear : Int
  hold : Int
  tmo : Int
structure St where
  up : Bool
  num : Int
  since : Int
  heard : Int
  quiet : Int
abbrev eR (r : Rl) : AV := .agg [I r.raise, I r.clear, I r.hold, I r.tmo]
abbrev eS (s : St) : AV := .agg [B s.up, I s.num, I s.since, I s.heard, I s.quiet]
abbrev eW (r : Rl) (s : St) : AV := .agg [I r.raise, I r.clear, I r.hold, I r.tmo, B s.up, I s.num, I s.since, I s.heard, I s.quiet]
def dW : AV → Option (Rl × St)
  | .agg [.int .i64 a, .int .i64 b, .int .i64 c, .int .i64 d, .bool u, .int .i64 e, .int .i64 f, .int .i64 g, .int .i64 h] => some (⟨a, b, c, d⟩, ⟨u, e, f, g, h⟩)
  | _ => none
theorem dW_e (r : Rl) (s : St) : dW (eW r s) = some (r, s) := rfl
theorem dW_inv {v : AV} {p : Rl × St} (h : dW v = some p) : v = eW p.1 p.2 := by
  unfold dW at h
  split at h
  · cases h; rfl
  · cases h

def endS (s : St) : St := ⟨false, s.num, 0, s.heard, -1⟩
def expS (r : Rl) (s : St) (t : Int) : St := if s.up = true ∧ r.tmo < t - s.heard then endS s else s
def midS (r : Rl) (s : St) (e : Gt) : St := if s.up = true then
    let s' : St := if r.clear ≤ e.hi then { s with quiet := -1 } else if s.quiet = -1 then { s with quiet := e.at' } else s
    if ¬ s'.quiet = -1 ∧ r.hold ≤ e.at' - s'.quiet then endS s' else s'
  else s
def finS (r : Rl) (s : St) (e : Gt) : St × Int := if s.up = false ∧ r.raise ≤ e.lo then
    if s.num = 62500 then (s, 15) else (⟨true, s.num + 1, e.at', e.at', s.quiet⟩, 0)
  else ({ s with heard := e.at' }, 0)
def hearS (r : Rl) (s : St) (e : Gt) : St × Int := finS r (midS r (expS r s e.at') e) e

abbrev wB (r : Rl) (s : St) : List HEnt := [⟨0, 0, .rows 160 9 [eW r s]⟩]
theorem k128 (r : Rl) (s : St) : LOk P 128 [.ptr 0 9 0 0] (wB r s) 1 (.tup []) (wB r (endS s)) 1 := by
  refine c128.lok (Cor.post (Cor.run (noC_good _) (noHx_good _) hm ?_))
  simp +contextual -implicitDefEqProofs (maxSteps := 2000000) only [bg_eq, a128, FinL, endS, ruB, rh_no, Int.reduceLT, Int.reduceLE, Int.reduceAdd, Int.reduceSub, Int.reduceMul, Int.reduceNeg, Int.reduceToNat, Int.reduceEq, Int.reduceNe, Int.reduceTDiv, Int.reduceTMod, implies_true, putL, appN, appX, appC, Eng.Fi, reduceCtorEq, exists_eq_left', exists_eq_left, if_true, if_false, List.replicate, Nat.reduceAdd, Nat.reduceSub, Nat.reduceMul, Nat.reduceLeDiff, Nat.reduceLT, Nat.reduceEqDiff]
  exact ⟨_, Wkn.to ⟨1, [], [], 1, []⟩ rfl rfl rfl, _, rfl, rfl, rfl, rfl⟩
def c128f : List AV → AV → Option (AV × AV)
  | [.ptr 0 9 0 0], v => match dW v with
    | some (r, s) => some (.tup [], eW r (endS s))
    | none => none
  | _, _ => none
theorem o128 : One P 128 160 9 c128f := fun args x v x' h => by
  unfold c128f at h; split at h
  · split at h
    · rename_i r s hd
      simp only [Option.some.injEq, Prod.mk.injEq] at h
      obtain ⟨rfl, rfl⟩ := h
      rw [dW_inv hd]
      exact ⟨⟨_, k128 r s⟩, rfl, rfl, rfl⟩
    · cases h
  · cases h
theorem y128 (r : Rl) (s : St) : c128f [.ptr 0 9 0 0] (.agg [I r.raise, I r.clear, I r.hold, I r.tmo, B s.up, I s.num, I s.since, I s.heard, I s.quiet]) = some (.tup [], eW r (endS s)) := rfl

/-- small numbers -/
abbrev sm (n : Int) : Prop := -10000000000000 ≤ n ∧ n ≤ 10000000000000
theorem k94 (r : Rl) (s : St) (t : Int) (h1 : sm t) (h2 : sm s.heard) : LOk P 94 [.ptr 0 9 0 0, I t] (wB r s) 1 (.tup []) (wB r (expS r s t)) 1 := by
  refine c94.lok (Cor.post (Cor.run (noC_good _) (addH_good o128.hn (noHx_good _)) hm ?_)) (fun G => YH_add (by decide) (YH_no _ _))
  obtain ⟨u, n, si, he, q⟩ := s
  simp only at h2
  have e1 : IntKind.wrap .i64 (t - he) = t - he := wrap64 (by omega) (by omega)
  have y := y128 r ⟨u, n, si, he, q⟩
  cases u
  · simp +contextual -implicitDefEqProofs (maxSteps := 2000000) only [bg_eq, a94, FinL, expS, ruH, ruB, Int.reduceLT, Int.reduceLE, Int.reduceAdd, Int.reduceSub, Int.reduceMul, Int.reduceNeg, Int.reduceToNat, Int.reduceEq, Int.reduceNe, Int.reduceTDiv, Int.reduceTMod, implies_true, putL, appN, appX, appC, Eng.Fi, reduceCtorEq, exists_eq_left', exists_eq_left, if_true, if_false, List.replicate, Nat.reduceAdd, Nat.reduceSub, Nat.reduceMul, Nat.reduceLeDiff, Nat.reduceLT, Nat.reduceEqDiff]
    exact ⟨_, Wkn.rfl, _, rfl, rfl, rfl, rfl⟩
  · simp only at y
    simp +contextual -implicitDefEqProofs (maxSteps := 2000000) only [bg_eq, a94, FinL, expS, e1, y, ruH, ruB, Int.reduceLT, Int.reduceLE, Int.reduceAdd, Int.reduceSub, Int.reduceMul, Int.reduceNeg, Int.reduceToNat, Int.reduceEq, Int.reduceNe, Int.reduceTDiv, Int.reduceTMod, implies_true, putL, appN, appX, appC, Eng.Fi, reduceCtorEq, exists_eq_left', exists_eq_left, if_true, if_false, List.replicate, Nat.reduceAdd, Nat.reduceSub, Nat.reduceMul, Nat.reduceLeDiff, Nat.reduceLT, Nat.reduceEqDiff]
    exact ⟨fun _ => ⟨_, Wkn.rfl, _, rfl, rfl, rfl, rfl⟩, fun _ => ⟨_, Wkn.rfl, _, rfl, rfl, rfl, rfl⟩⟩
def c94f : List AV → AV → Option (AV × AV)
  | [.ptr 0 9 0 0, .int .i64 t], v => match dW v with
    | some (r, s) => if sm t ∧ sm s.heard then some (.tup [], eW r (expS r s t)) else none
    | none => none
  | _, _ => none
theorem o94 : One P 94 160 9 c94f := fun args x v x' h => by
  unfold c94f at h; split at h
  · split at h
    · rename_i r s hd
      split at h
      · rename_i hc
        simp only [Option.some.injEq, Prod.mk.injEq] at h
        obtain ⟨rfl, rfl⟩ := h
        rw [dW_inv hd]
        exact ⟨⟨_, k94 r s _ hc.1 hc.2⟩, rfl, rfl, rfl⟩
      · cases h
    · cases h
  · cases h
theorem y94 (r : Rl) (s : St) (t : Int) (h : (sm t ∧ sm s.heard) = True) : c94f [.ptr 0 9 0 0, .int .i64 t] (.agg [I r.raise, I r.clear, I r.hold, I r.tmo, B s.up, I s.num, I s.since, I s.heard, I s.quiet]) = some (.tup [], eW r (expS r s t)) := by
  show (if sm t ∧ sm s.heard then _ else _) = _
  rw [if_pos (by rw [h]; trivial)]

theorem k93 (r : Rl) (s : St) (e : Gt) (h1 : sm e.at') (h2 : sm s.heard) (h3 : sm s.quiet) (h4 : sm s.num) : LOk P 93 [.ptr 0 9 0 0, eG e] (wB r s) 1 (I (hearS r s e).2) (wB r (hearS r s e).1) 1 := by
  refine c93.lok (Cor.post (Cor.run (noC_good _) (addH_good o94.hn (addH_good o128.hn (noHx_good _))) hm ?_)) (fun G => YH_add (by decide) (YH_add (by decide) (YH_no _ _)))
  have y0 := y94 r s e.at' (by simp only [eq_iff_iff, iff_true]; exact ⟨h1, h2⟩)
  have hq : sm (expS r s e.at').quiet := by unfold expS endS; split <;> (try simp only) <;> omega
  have hn : sm (expS r s e.at').num := by unfold expS endS; split <;> (try simp only) <;> omega
  have hh : hearS r s e = finS r (midS r (expS r s e.at') e) e := rfl
  generalize expS r s e.at' = s1 at *
  obtain ⟨u, n, si, he, q⟩ := s1
  simp only at hq hn
  have e1 : IntKind.wrap .i64 (e.at' - q) = e.at' - q := wrap64 (by omega) (by omega)
  have e2 : IntKind.wrap .i64 (e.at' - e.at') = 0 := by rw [wrap64 (by omega) (by omega)]; omega
  have e3 : IntKind.wrap .i64 (n + 1) = n + 1 := wrap64 (by omega) (by omega)
  have ya := y128 r ⟨true, n, si, he, q⟩
  have yb := y128 r ⟨true, n, si, he, e.at'⟩
  rw [hh]
  cases u
  · simp +contextual -implicitDefEqProofs (maxSteps := 2000000) only [bg_eq, a93, FinL, y0, e1, e2, e3, finS, midS, not_true_eq_false, not_false_eq_true, ruH, ruB, Int.reduceLT, Int.reduceLE, Int.reduceAdd, Int.reduceSub, Int.reduceMul, Int.reduceNeg, Int.reduceToNat, Int.reduceEq, Int.reduceNe, Int.reduceTDiv, Int.reduceTMod, implies_true, putL, appN, appX, appC, Eng.Fi, reduceCtorEq, exists_eq_left', exists_eq_left, if_true, if_false, List.replicate, Nat.reduceAdd, Nat.reduceSub, Nat.reduceMul, Nat.reduceLeDiff, Nat.reduceLT, Nat.reduceEqDiff]
    refine ⟨fun h5 => ⟨fun h6 => ?_, fun h6 => ?_⟩, fun h5 => ?_⟩ <;> exact ⟨_, Wkn.to ⟨1, [], [], 1, [4]⟩ rfl rfl rfl, _, rfl, rfl, rfl, rfl⟩
  · by_cases hc : r.clear ≤ e.hi
    · have hmid : midS r ⟨true, n, si, he, q⟩ e = ⟨true, n, si, he, -1⟩ := by simp [midS, hc]
      simp +contextual -implicitDefEqProofs (maxSteps := 2000000) only [bg_eq, a93, FinL, y0, e1, e2, e3, hmid, finS, hc, not_true_eq_false, not_false_eq_true, ruH, ruB, Int.reduceLT, Int.reduceLE, Int.reduceAdd, Int.reduceSub, Int.reduceMul, Int.reduceNeg, Int.reduceToNat, Int.reduceEq, Int.reduceNe, Int.reduceTDiv, Int.reduceTMod, implies_true, putL, appN, appX, appC, Eng.Fi, reduceCtorEq, exists_eq_left', exists_eq_left, if_true, if_false, List.replicate, Nat.reduceAdd, Nat.reduceSub, Nat.reduceMul, Nat.reduceLeDiff, Nat.reduceLT, Nat.reduceEqDiff]
      exact ⟨_, Wkn.to ⟨1, [], [], 1, [4]⟩ rfl rfl rfl, _, rfl, rfl, rfl, rfl⟩
    · by_cases hq1 : q = -1
      · subst hq1
        by_cases hd : ¬ e.at' = -1 ∧ r.hold ≤ 0
        · have hmid : midS r ⟨true, n, si, he, -1⟩ e = ⟨false, n, 0, he, -1⟩ := by simp [midS, hc, hd.1, hd.2, endS]
          simp +contextual -implicitDefEqProofs (maxSteps := 2000000) only [bg_eq, a93, FinL, y0, e1, e2, e3, hmid, finS, ya, yb, hc, hd.1, hd.2, endS, not_true_eq_false, not_false_eq_true, ruH, ruB, Int.reduceLT, Int.reduceLE, Int.reduceAdd, Int.reduceSub, Int.reduceMul, Int.reduceNeg, Int.reduceToNat, Int.reduceEq, Int.reduceNe, Int.reduceTDiv, Int.reduceTMod, implies_true, putL, appN, appX, appC, Eng.Fi, reduceCtorEq, exists_eq_left', exists_eq_left, if_true, if_false, List.replicate, Nat.reduceAdd, Nat.reduceSub, Nat.reduceMul, Nat.reduceLeDiff, Nat.reduceLT, Nat.reduceEqDiff]
          refine ⟨fun h5 => ⟨fun h6 => ?_, fun h6 => ?_⟩, fun h5 => ?_⟩
          · rw [h6] at hmid
            rw [hmid]
            exact ⟨_, Wkn.to ⟨1, [], [], 1, [4]⟩ rfl rfl rfl, _, rfl, rfl, rfl, rfl⟩
          all_goals exact ⟨_, Wkn.to ⟨1, [], [], 1, [4]⟩ rfl rfl rfl, _, rfl, rfl, rfl, rfl⟩
        · have hmid : midS r ⟨true, n, si, he, -1⟩ e = ⟨true, n, si, he, e.at'⟩ := by
            simp only [midS, hc, if_true, if_false]
            rw [if_neg (by rw [Int.sub_self]; exact hd)]
          have hd' : (¬ e.at' = -1 ∧ r.hold ≤ 0) = False := by simp only [hd]
          simp +contextual -implicitDefEqProofs (maxSteps := 2000000) only [bg_eq, a93, FinL, y0, e1, e2, e3, hmid, finS, hc, hd', not_true_eq_false, not_false_eq_true, ruH, ruB, Int.reduceLT, Int.reduceLE, Int.reduceAdd, Int.reduceSub, Int.reduceMul, Int.reduceNeg, Int.reduceToNat, Int.reduceEq, Int.reduceNe, Int.reduceTDiv, Int.reduceTMod, implies_true, putL, appN, appX, appC, Eng.Fi, reduceCtorEq, exists_eq_left', exists_eq_left, if_true, if_false, List.replicate, Nat.reduceAdd, Nat.reduceSub, Nat.reduceMul, Nat.reduceLeDiff, Nat.reduceLT, Nat.reduceEqDiff]
          exact ⟨_, Wkn.to ⟨1, [], [], 1, [4]⟩ rfl rfl rfl, _, rfl, rfl, rfl, rfl⟩
      · by_cases hd : r.hold ≤ e.at' - q
        · have hmid : midS r ⟨true, n, si, he, q⟩ e = ⟨false, n, 0, he, -1⟩ := by simp [midS, hc, hq1, hd, endS]
          simp +contextual -implicitDefEqProofs (maxSteps := 2000000) only [bg_eq, a93, FinL, y0, e1, e2, e3, hmid, finS, ya, yb, hc, hq1, hd, endS, not_true_eq_false, not_false_eq_true, ruH, ruB, Int.reduceLT, Int.reduceLE, Int.reduceAdd, Int.reduceSub, Int.reduceMul, Int.reduceNeg, Int.reduceToNat, Int.reduceEq, Int.reduceNe, Int.reduceTDiv, Int.reduceTMod, implies_true, putL, appN, appX, appC, Eng.Fi, reduceCtorEq, exists_eq_left', exists_eq_left, if_true, if_false, List.replicate, Nat.reduceAdd, Nat.reduceSub, Nat.reduceMul, Nat.reduceLeDiff, Nat.reduceLT, Nat.reduceEqDiff]
          refine ⟨fun h5 => ⟨fun h6 => ?_, fun h6 => ?_⟩, fun h5 => ?_⟩
          · rw [h6] at hmid
            rw [hmid]
            exact ⟨_, Wkn.to ⟨1, [], [], 1, [4]⟩ rfl rfl rfl, _, rfl, rfl, rfl, rfl⟩
          all_goals exact ⟨_, Wkn.to ⟨1, [], [], 1, [4]⟩ rfl rfl rfl, _, rfl, rfl, rfl, rfl⟩
        · have hmid : midS r ⟨true, n, si, he, q⟩ e = ⟨true, n, si, he, q⟩ := by simp [midS, hc, hq1, hd]
          simp +contextual -implicitDefEqProofs (maxSteps := 2000000) only [bg_eq, a93, FinL, y0, e1, e2, e3, hmid, finS, hc, hq1, hd, not_true_eq_false, not_false_eq_true, ruH, ruB, Int.reduceLT, Int.reduceLE, Int.reduceAdd, Int.reduceSub, Int.reduceMul, Int.reduceNeg, Int.reduceToNat, Int.reduceEq, Int.reduceNe, Int.reduceTDiv, Int.reduceTMod, implies_true, putL, appN, appX, appC, Eng.Fi, reduceCtorEq, exists_eq_left', exists_eq_left, if_true, if_false, List.replicate, Nat.reduceAdd, Nat.reduceSub, Nat.reduceMul, Nat.reduceLeDiff, Nat.reduceLT, Nat.reduceEqDiff]
          exact ⟨_, Wkn.to ⟨1, [], [], 1, [4]⟩ rfl rfl rfl, _, rfl, rfl, rfl, rfl⟩
def c93f : List AV → AV → Option (AV × AV)
  | [.ptr 0 9 0 0, a], v => match dG a, dW v with
    | some e, some (r, s) => if sm e.at' ∧ sm s.heard ∧ sm s.quiet ∧ sm s.num then some (I (hearS r s e).2, eW r (hearS r s e).1) else none
    | _, _ => none
  | _, _ => none
theorem o93 : One P 93 160 9 c93f := fun args x v x' h => by
  unfold c93f at h; split at h
  · split at h
    · rename_i e r s hd hd2
      split at h
      · rename_i hc
        simp only [Option.some.injEq, Prod.mk.injEq] at h
        obtain ⟨rfl, rfl⟩ := h
        rw [dW_inv hd2, dG_inv _ _ hd]
        exact ⟨⟨_, k93 r s e hc.1 hc.2.1 hc.2.2.1 hc.2.2.2⟩, rfl, rfl, rfl⟩
      · cases h
    · cases h
  · cases h
theorem y93 (r : Rl) (s : St) (e : Gt) (h : (sm e.at' ∧ sm s.heard ∧ sm s.quiet ∧ sm s.num) = True) : c93f [.ptr 0 9 0 0, .agg [I e.at', I e.lo, I e.hi]] (.agg [I r.raise, I r.clear, I r.hold, I r.tmo, B s.up, I s.num, I s.since, I s.heard, I s.quiet]) = some (I (hearS r s e).2, eW r (hearS r s e).1) := by
  show (if sm e.at' ∧ sm s.heard ∧ sm s.quiet ∧ sm s.num then _ else _) = _
  rw [if_pos (by rw [h]; trivial)]

/-! fresh -/
def st0 : St := ⟨false, 0, 0, -1, -1⟩
theorem k92 (r : Rl) : LOk P 92 [eR r] [] 0 (.ptr 0 9 0 0) [⟨0, 0, .rows 160 9 [eW r st0]⟩] 1 := by
  refine c92.lok (Cor.post (Cor.run (noC_good _) (noHx_good _) hm ?_))
  simp +contextual -implicitDefEqProofs (maxSteps := 2000000) only [bg_eq, a92, FinL, ruB, rh_no, Int.reduceLT, Int.reduceLE, Int.reduceAdd, Int.reduceSub, Int.reduceMul, Int.reduceNeg, Int.reduceToNat, Int.reduceEq, Int.reduceNe, Int.reduceTDiv, Int.reduceTMod, implies_true, putL, appN, appX, appC, Eng.Fi, reduceCtorEq, exists_eq_left', exists_eq_left, if_true, if_false, List.replicate, Nat.reduceAdd, Nat.reduceSub, Nat.reduceMul, Nat.reduceLeDiff, Nat.reduceLT, Nat.reduceEqDiff]
  exact ⟨_, Wkn.to ⟨0, [(1, 0)], [], 1, [2]⟩ rfl rfl rfl, _, rfl, rfl, rfl, rfl⟩
def c92f : List AV → Option AV
  | [.agg [.int .i64 a, .int .i64 b, .int .i64 c, .int .i64 d]] => some (eW ⟨a, b, c, d⟩ st0)
  | _ => none
theorem o92 : Lay P 92 160 9 c92f := fun args x h => by
  unfold c92f at h; split at h
  · cases h; exact ⟨⟨_, k92 ⟨_, _, _, _⟩⟩, rfl, rfl⟩
  · cases h
theorem y92 (r : Rl) (H : List HEnt) (nx : Nat) : layH 160 9 c92f [.agg [I r.raise, I r.clear, I r.hold, I r.tmo]] H nx = some (.ptr nx 9 0 0, ⟨nx, nx, .rows 160 9 [eW r st0]⟩ :: H, nx + 1) := rfl

/-! the errors -/
theorem k91 (n : Int) : FOk P 91 [I n] (B (w3 n 0 1000000000000)) := by
  refine c91.fok rfl (Cor.run (addC_good g107 (noC_good _)) (noHx_good _) hm ?_)
  simp +contextual -implicitDefEqProofs (maxSteps := 2000000) only [bg_eq, a91, x107, w3, ruB, rh_no, Int.reduceLT, Int.reduceLE, Int.reduceAdd, Int.reduceSub, Int.reduceMul, Int.reduceNeg, Int.reduceToNat, Int.reduceEq, Int.reduceNe, Int.reduceTDiv, Int.reduceTMod, implies_true, putL, appN, appX, appC, Eng.Fi, reduceCtorEq, exists_eq_left', exists_eq_left, if_true, if_false, List.replicate, Nat.reduceAdd, Nat.reduceSub, Nat.reduceMul, Nat.reduceLeDiff, Nat.reduceLT, Nat.reduceEqDiff]
def c91f : List AV → Option AV
  | [.int .i64 n] => some (.bool (decide (0 ≤ n ∧ n ≤ 1000000000000)))
  | _ => none
theorem g91 : Fn P 91 c91f := fun args v h => by
  unfold c91f at h; split at h
  · cases h; exact k91 _
  · cases h
theorem x91 (n : Int) : c91f [.int .i64 n] = some (.bool (decide (0 ≤ n ∧ n ≤ 1000000000000))) := rfl
def evE (e : Gt) : Int := firstE [unl ((0 ≤ e.at' ∧ e.at' ≤ 1000000000000) ∧ ((-20000 ≤ e.lo ∧ e.lo ≤ 20000) ∧ (-20000 ≤ e.hi ∧ e.hi ≤ 20000))) 2, unl (e.lo ≤ e.hi) 9]
theorem k89 (e : Gt) : FOk P 89 [eG e] (I (evE e)) := by
  refine c89.fok rfl (Cor.run (addC_good g84 (addC_good g85 (addC_good g111 (addC_good g101 (addC_good g91 (noC_good _)))))) (noHx_good _) hm ?_)
  simp +contextual -implicitDefEqProofs (maxSteps := 2000000) only [bg_eq, a89, x91, x101, x111, x85, x84, r84s, evE, Lmax, ruB, rh_no, Int.reduceLT, Int.reduceLE, Int.reduceAdd, Int.reduceSub, Int.reduceMul, Int.reduceNeg, Int.reduceToNat, Int.reduceEq, Int.reduceNe, Int.reduceTDiv, Int.reduceTMod, implies_true, putL, appN, appX, appC, Eng.Fi, reduceCtorEq, exists_eq_left', exists_eq_left, if_true, if_false, List.replicate, Nat.reduceAdd, Nat.reduceSub, Nat.reduceMul, Nat.reduceLeDiff, Nat.reduceLT, Nat.reduceEqDiff]
def c89f : List AV → Option AV
  | [.agg [.int .i64 a, .int .i64 b, .int .i64 c]] => some (I (evE ⟨a, b, c⟩))
  | _ => none
theorem g89 : Fn P 89 c89f := fun args v h => by
  unfold c89f at h; split at h
  · cases h; exact k89 ⟨_, _, _⟩
  · cases h
theorem x89 (e : Gt) : c89f [.agg [I e.at', I e.lo, I e.hi]] = some (.int .i64 (evE e)) := rfl

def rlE (r : Rl) : Int := firstE [unl ((((1 ≤ r.raise ∧ r.raise ≤ 20000) ∧ (0 ≤ r.clear ∧ r.clear ≤ 20000)) ∧ (0 ≤ r.hold ∧ r.hold ≤ 100000)) ∧ (1 ≤ r.tmo ∧ r.tmo ≤ 100000)) 2, unl (r.clear ≤ r.raise) 9]
theorem k48 (r : Rl) : FOk P 48 [eR r] (I (rlE r)) := by
  refine c48.fok rfl (Cor.run (addC_good g84 (addC_good g85 (addC_good g107 (noC_good _)))) (noHx_good _) hm ?_)
  simp +contextual -implicitDefEqProofs (maxSteps := 2000000) only [bg_eq, a48, x107, x85, x84, r84s, rlE, Lmax, ruB, rh_no, Int.reduceLT, Int.reduceLE, Int.reduceAdd, Int.reduceSub, Int.reduceMul, Int.reduceNeg, Int.reduceToNat, Int.reduceEq, Int.reduceNe, Int.reduceTDiv, Int.reduceTMod, implies_true, putL, appN, appX, appC, Eng.Fi, reduceCtorEq, exists_eq_left', exists_eq_left, if_true, if_false, List.replicate, Nat.reduceAdd, Nat.reduceSub, Nat.reduceMul, Nat.reduceLeDiff, Nat.reduceLT, Nat.reduceEqDiff]
def c48f : List AV → Option AV
  | [.agg [.int .i64 a, .int .i64 b, .int .i64 c, .int .i64 d]] => some (I (rlE ⟨a, b, c, d⟩))
  | _ => none
theorem g48 : Fn P 48 c48f := fun args v h => by
  unfold c48f at h; split at h
  · cases h; exact k48 ⟨_, _, _, _⟩
  · cases h
theorem x48 (r : Rl) : c48f [.agg [I r.raise, I r.clear, I r.hold, I r.tmo]] = some (.int .i64 (rlE r)) := rfl

def xErr (last : Int) (e : Gt) : Int := firstE [evE e, unl (last < e.at') 9]
theorem l88 (i : Int) (g g0 : Gt) (last : Int) : LOk P 88 [I i, eG g, .ptr 0 1 0 0] [⟨2, 2, .rows 66 3 [eG g0]⟩, ⟨0, 0, .rows 3 1 [I last]⟩] 4 (I (xErr last g)) [⟨2, 2, .rows 66 3 [eG g0]⟩, ⟨0, 0, .rows 3 1 [I g.at']⟩] 4 := by
  refine c88.lok (Cor.post (Cor.run (addC_good g84 (addC_good g85 (addC_good g89 (noC_good _)))) (noHx_good _) hm ?_))
  simp +contextual -implicitDefEqProofs (maxSteps := 2000000) only [bg_eq, a88, x89, x85, x84, r84s, FinL, xErr, Lmax, ruB, rh_no, Int.reduceLT, Int.reduceLE, Int.reduceAdd, Int.reduceSub, Int.reduceMul, Int.reduceNeg, Int.reduceToNat, Int.reduceEq, Int.reduceNe, Int.reduceTDiv, Int.reduceTMod, implies_true, putL, appN, appX, appC, Eng.Fi, reduceCtorEq, exists_eq_left', exists_eq_left, if_true, if_false, List.replicate, Nat.reduceAdd, Nat.reduceSub, Nat.reduceMul, Nat.reduceLeDiff, Nat.reduceLT, Nat.reduceEqDiff]
  exact ⟨_, Wkn.to ⟨4, [], [], 4, [5]⟩ rfl rfl rfl, _, rfl, rfl, rfl, rfl⟩
def c88h : List AV → List HEnt → Nat → Option (AV × List HEnt × Nat)
  | [.int .i64 i, v, .ptr 0 1 0 0], [⟨2, 2, .rows 66 3 [v0]⟩, ⟨0, 0, .rows 3 1 [.int .i64 last]⟩], 4 => match dG v, dG v0 with
    | some g, some g0 => some (I (xErr last g), [⟨2, 2, .rows 66 3 [eG g0]⟩, ⟨0, 0, .rows 3 1 [I g.at']⟩], 4)
    | _, _ => none
  | _, _, _ => none
theorem h88 : Hn P 88 c88h := fun args hp nx v hp' nx' h => by
  unfold c88h at h; split at h
  · split at h
    · rename_i h1 h2
      cases h
      rw [dG_inv _ _ h1, dG_inv _ _ h2]
      exact l88 ..
    · cases h
  · cases h
theorem y88 (i last : Int) (g g0 : Gt) : c88h [I i, eG g, .ptr 0 1 0 0] [⟨2, 2, .rows 66 3 [eG g0]⟩, ⟨0, 0, .rows 3 1 [I last]⟩] 4 = some (I (xErr last g), [⟨2, 2, .rows 66 3 [eG g0]⟩, ⟨0, 0, .rows 3 1 [I g.at']⟩], 4) := rfl

/-- the first invalid gate -/
def eachX : Int → Int → List Gt → Int × Int
  | _, _, [] => (0, 0)
  | i, last, g :: r => if xErr last g = 0 then eachX (i + 1) g.at' r else (i, xErr last g)
def eachY : Int → List Gt → Int
  | last, [] => last
  | last, g :: r => if xErr last g = 0 then eachY g.at' r else g.at'
def S87 (l : List Gt) (p : Nat × Int) : AState := ⟨[.vs (l.map eG), .fn 88 [] [.ptr 0 1 0 0], .any, .any, I 0, I 0, .any, .any, .any, .vs (l.map eG), I l.length, I p.1, .any, .any, .any, .any, .any, .any, .any, .any, .any, .any, .any, .any, .any], [⟨0, 0, .rows 3 1 [I p.2]⟩], 2⟩
theorem l87 (l : List Gt) (hl : l.length ≤ 40) : LOk P 87 [.vs (l.map eG), .fn 88 [] [.ptr 0 1 0 0]] [⟨0, 0, .rows 3 1 [I (-1)]⟩] 2 (.tup [I (eachX 0 (-1) l).1, I (eachX 0 (-1) l).2]) [⟨0, 0, .rows 3 1 [I (eachY (-1) l)]⟩] 2 := by
  refine c87.lok (Cor.post (Cor.run (noC_good _) (addH_good h88 (noHx_good _)) hm ?_)) (fun G => YH_add (by decide) (YH_no _ _))
  simp +contextual -implicitDefEqProofs (maxSteps := 2000000) only [bg_eq, a87, List.length_map, ruH, ruB, Int.reduceLT, Int.reduceLE, Int.reduceAdd, Int.reduceSub, Int.reduceMul, Int.reduceNeg, Int.reduceToNat, Int.reduceEq, Int.reduceNe, Int.reduceTDiv, Int.reduceTMod, implies_true, putL, appN, appX, appC, Eng.Fi, reduceCtorEq, exists_eq_left', exists_eq_left, if_true, if_false, List.replicate, Nat.reduceAdd, Nat.reduceSub, Nat.reduceMul, Nat.reduceLeDiff, Nat.reduceLT, Nat.reduceEqDiff]
  refine Cor.lp (noC_good _) (addH_good h88 (noHx_good _)) hm (S87 l) (fun p => p.1 ≤ l.length ∧ eachX 0 (-1) l = eachX p.1 p.2 (l.drop p.1) ∧ eachY (-1) l = eachY p.2 (l.drop p.1)) (fun p => l.length - p.1) (a := (0, -1)) ⟨Nat.zero_le _, by simp, by simp⟩ (Wkn.keep [0, 1, 4, 5, 9, 10, 11] rfl) ?_
  rintro f ⟨n, last⟩ ⟨hn, hf, hL⟩ go
  simp only at hn hf hL
  rcases Nat.lt_or_ge n l.length with h | h
  · have e1 : decide ((n : Int) < (l.length : Int)) = true := by simp; omega
    have e2 : (l.map eG)[n]? = some (eG l[n]) := by simp [h]
    have e3 : IntKind.wrap .i64 ((n : Int) + 1) = ((n + 1 : Nat) : Int) := by rw [wrap64 (by omega) (by omega)]; rfl
    have e4 : l.drop n = l[n] :: l.drop (n + 1) := List.drop_eq_getElem_cons h
    rw [e4, eachX] at hf
    rw [e4, eachY] at hL
    simp +contextual -implicitDefEqProofs (maxSteps := 2000000) only [S87, e1, e2, e3, y88, FinL, ruH, ruB, Int.reduceLT, Int.reduceLE, Int.reduceAdd, Int.reduceSub, Int.reduceMul, Int.reduceNeg, Int.reduceToNat, Int.reduceEq, Int.reduceNe, Int.reduceTDiv, Int.reduceTMod, implies_true, putL, appN, appX, appC, Eng.Fi, reduceCtorEq, exists_eq_left', exists_eq_left, if_true, if_false, List.replicate, Nat.reduceAdd, Nat.reduceSub, Nat.reduceMul, Nat.reduceLeDiff, Nat.reduceLT, Nat.reduceEqDiff]
    refine ⟨fun h0 => ⟨_, Wkn.to ⟨2, [], [], 2, [4, 5]⟩ rfl rfl rfl, _, rfl, ?_, ?_, rfl⟩, fun h0 => go _ (n + 1, l[n].at') ⟨h, ?_, ?_⟩ (by simp only; omega) (Wkn.to ⟨2, [], [], 2, [0, 1, 4, 5, 9, 10, 11]⟩ rfl rfl (by simp only [Wk.st, keepT, sub1, subs, Wk.hp, ABlk.sub, free_G]; try rfl))⟩
    · rw [hf, if_neg h0]; rfl
    · rw [hL, if_neg h0]; rfl
    · rw [hf, if_pos h0]; rfl
    · rw [hL, if_pos h0]
  · have e1 : decide ((n : Int) < (l.length : Int)) = false := by simp; omega
    simp +contextual -implicitDefEqProofs (maxSteps := 2000000) only [S87, e1, FinL, ruH, ruB, Int.reduceLT, Int.reduceLE, Int.reduceAdd, Int.reduceSub, Int.reduceMul, Int.reduceNeg, Int.reduceToNat, Int.reduceEq, Int.reduceNe, Int.reduceTDiv, Int.reduceTMod, implies_true, putL, appN, appX, appC, Eng.Fi, reduceCtorEq, exists_eq_left', exists_eq_left, if_true, if_false, List.replicate, Nat.reduceAdd, Nat.reduceSub, Nat.reduceMul, Nat.reduceLeDiff, Nat.reduceLT, Nat.reduceEqDiff]
    refine ⟨_, Wkn.rfl, _, rfl, ?_, ?_, rfl⟩
    · rw [hf, List.drop_eq_nil_of_le h]; rfl
    · rw [hL, List.drop_eq_nil_of_le h]; rfl
def c87h : List AV → List HEnt → Nat → Option (AV × List HEnt × Nat)
  | [.vs vals, .fn 88 [] [.ptr 0 1 0 0]], [⟨0, 0, .rows 3 1 [.int .i64 (-1)]⟩], 2 => match decL dG vals with
    | some l => if l.length ≤ 40 then some (.tup [I (eachX 0 (-1) l).1, I (eachX 0 (-1) l).2], [⟨0, 0, .rows 3 1 [I (eachY (-1) l)]⟩], 2) else none
    | _ => none
  | _, _, _ => none
theorem h87 : Hn P 87 c87h := fun args hp nx v hp' nx' h => by
  unfold c87h at h; split at h
  · split at h
    · rename_i h1
      split at h
      · rename_i h2
        cases h
        rw [decL_inv dG eG dG_inv h1]
        exact l87 _ h2
      · cases h
    · cases h
  · cases h
theorem y87 (l : List Gt) (h : (l.length ≤ 40) = True) : c87h [.vs (l.map eG), .fn 88 [] [.ptr 0 1 0 0]] [⟨0, 0, .rows 3 1 [I (-1)]⟩] 2 = some (.tup [I (eachX 0 (-1) l).1, I (eachX 0 (-1) l).2], [⟨0, 0, .rows 3 1 [I (eachY (-1) l)]⟩], 2) := by
  simp only [c87h, decL_map dG eG dG_e, h, if_true]

def chkX (l : List Gt) : Int × Int := if l.length ≤ 40 then eachX 0 (-1) l else (0, 8)
theorem k22 (l : List Gt) (hl : l.length ≤ Lmax) : FOk P 22 [.vs (l.map eG)] (.tup [I (chkX l).1, I (chkX l).2]) := by
  refine c22.fok (by simp only [subs, sub1, free_G]) (Cor.run (noC_good _) (addH_good h87 (noHx_good _)) hm ?_) (fun G => YH_add (by decide) (YH_no _ _))
  by_cases h : l.length ≤ 40
  · have h' : (l.length ≤ 40) = True := by simp [h]
    have h1 : decide ((40 : Int) < (l.length : Int)) = false := by simp; omega
    simp +contextual -implicitDefEqProofs (maxSteps := 2000000) only [bg_eq, a22, List.length_map, h1, y87, h', chkX, ruH, ruB, Int.reduceLT, Int.reduceLE, Int.reduceAdd, Int.reduceSub, Int.reduceMul, Int.reduceNeg, Int.reduceToNat, Int.reduceEq, Int.reduceNe, Int.reduceTDiv, Int.reduceTMod, implies_true, putL, appN, appX, appC, Eng.Fi, reduceCtorEq, exists_eq_left', exists_eq_left, if_true, if_false, List.replicate, Nat.reduceAdd, Nat.reduceSub, Nat.reduceMul, Nat.reduceLeDiff, Nat.reduceLT, Nat.reduceEqDiff]
  · have h1 : decide ((40 : Int) < (l.length : Int)) = true := by simp; omega
    simp +contextual -implicitDefEqProofs (maxSteps := 2000000) only [bg_eq, a22, List.length_map, h1, chkX, h, ruH, ruB, Int.reduceLT, Int.reduceLE, Int.reduceAdd, Int.reduceSub, Int.reduceMul, Int.reduceNeg, Int.reduceToNat, Int.reduceEq, Int.reduceNe, Int.reduceTDiv, Int.reduceTMod, implies_true, putL, appN, appX, appC, Eng.Fi, reduceCtorEq, exists_eq_left', exists_eq_left, if_true, if_false, List.replicate, Nat.reduceAdd, Nat.reduceSub, Nat.reduceMul, Nat.reduceLeDiff, Nat.reduceLT, Nat.reduceEqDiff]
def c22f : List AV → Option AV
  | [.vs vals] => onL dG vals fun l => if l.length ≤ 1099511627776 then some (.tup [I (chkX l).1, I (chkX l).2]) else none
  | _ => none
theorem g22 : Fn P 22 c22f := fun args v h => by
  unfold c22f at h; split at h
  · obtain ⟨l, rfl, h2⟩ := onL_inv dG_inv h
    split at h2
    · rename_i hc; cases h2; exact k22 l  hc
    · cases h2
  · cases h
theorem x22 (l : List Gt) (h : (l.length ≤ 1099511627776) = True) : c22f [.vs (l.map eG)] = some (.tup [I (chkX l).1, I (chkX l).2]) := by
  simp only [c22f, onL_map dG_e, h, if_true]
end Sh
