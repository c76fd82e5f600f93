import Derived.Test.YtabkbhpeeefmgaaEngS9
import Derived.Test.YtabkbhpeeefmgaaEngZ
import Derived.Test.YtabkbhpeeefmgaaProg
import Derived.Test.YtabkbhpeeefmgaaEngSH
open Go Go.Proofs Eng
set_option maxRecDepth 100000
set_option linter.unusedSimpArgs false
set_option linter.unusedVariables false
def a20 : AC := .seq (.ops false [] [⟨some 6, .p (.mov), [.c (.bool false)], none⟩]) (.seq (.ops false [] [⟨some 7, .p (.mov), [.t 1], none⟩, ⟨some 8, .p (.mov), [.t 0], none⟩, ⟨some 9, .p (.binI .leq), [.t 7, .t 8], none⟩, ⟨some 10, .p (.mov), [.t 9], none⟩, ⟨some 11, .p (.mov), [.t 0], some (10, true)⟩, ⟨some 12, .p (.mov), [.t 2], some (10, true)⟩, ⟨some 13, .p (.binI .leq), [.t 11, .t 12], some (10, true)⟩, ⟨some 14, .p (.pick), [.t 10, .t 13, .c (.bool false)], none⟩, ⟨some 6, .p (.mov), [.t 14], none⟩]) (.ret))
theorem c20 : FnC Try.prog 20 15 a20 [.tmp 6] := ⟨Try.call20, _, _, Try.func20, rfl, by kernel_rfl, by kernel_rfl, rfl⟩
def a60 : AC := .seq (.ops false [] [⟨some 3, .box 108 4 1 true, [.t 0], none⟩, ⟨some 4, .box 90 3 1 true, [.t 1], none⟩, ⟨some 5, .box 44 2 1 true, [.t 2], none⟩, ⟨some 6, .p (.mov), [.c (.int .i64 0)], none⟩, ⟨some 7, .p (.mov), [.c (.int .i64 0)], none⟩]) (.seq (.seq (.ops true [] [⟨some 9, .load 4 true, [.t 3], none⟩, ⟨some 10, .call 122, [.t 9], none⟩, ⟨some 11, .load 3 true, [.t 4], none⟩, ⟨some 12, .call 113, [.t 11], none⟩, ⟨some 13, .load 2 true, [.t 5], none⟩, ⟨some 14, .call 114, [.t 13], none⟩, ⟨some 15, .fbs 1, [.t 10, .t 12, .t 14], none⟩, ⟨some 16, .call 79, [.t 15], none⟩, ⟨some 8, .p (.mov), [.t 16], none⟩]) (.seq (.ops false [] [⟨some 17, .p (.mov), [.t 8], none⟩, ⟨some 18, .p (.binI .neq), [.t 17, .c (.int .i64 0)], none⟩]) (.cond (.t 18) (.seq (.ops false [] [⟨some 19, .p (.mov), [.t 8], none⟩, ⟨some 6, .p (.mov), [.c (.int .i64 0)], none⟩, ⟨some 7, .p (.mov), [.t 19], none⟩]) (.ret)) (.skip)))) (.seq (.ops false [] [⟨some 20, .load 4 true, [.t 3], none⟩, ⟨some 21, .load 3 true, [.t 4], none⟩, ⟨some 22, .load 2 true, [.t 5], none⟩, ⟨some 23, .call 125, [.t 20, .t 21, .t 22], none⟩, ⟨some 6, .p (.mov), [.t 23], none⟩, ⟨some 7, .p (.mov), [.c (.int .i64 0)], none⟩]) (.ret)))
theorem c60 : FnC Try.prog 60 24 a60 [.tmp 6, .tmp 7] := ⟨Try.call60, _, _, Try.func60, rfl, by kernel_rfl, by kernel_rfl, rfl⟩
def a79 : AC := .seq (.ops false [] [⟨some 2, .p (.mov), [.c (.int .i64 0)], none⟩]) (.seq (.seq (.ops false [] [⟨some 5, .p (.mov), [.t 0], none⟩, ⟨some 6, .p (.lenS), [.t 5], none⟩, ⟨some 7, .p (.mov), [.c (.int .i64 0)], none⟩]) (.block 0 (.loop (.seq (.ops false [] [⟨some 8, .p (.binI .lss), [.t 7, .t 6], none⟩]) (.seq (.cond (.t 8) (.skip) (.exit 0)) (.seq (.block 1 (.seq (.ops false [] [⟨some 9, .p (.iaddrS 1), [.t 5, .t 7], none⟩, ⟨some 10, .load 1 false, [.t 9], none⟩, ⟨some 4, .p (.mov), [.t 10], none⟩]) (.seq (.ops false [] [⟨some 11, .p (.mov), [.t 4], none⟩, ⟨some 12, .p (.binI .neq), [.t 11, .c (.int .i64 0)], none⟩]) (.cond (.t 12) (.seq (.ops false [] [⟨some 13, .p (.mov), [.t 4], none⟩, ⟨some 2, .p (.mov), [.t 13], none⟩]) (.ret)) (.skip))))) (.ops false [] [⟨some 14, .p (.binI .add), [.t 7, .c (.int .i64 1)], none⟩, ⟨some 7, .p (.mov), [.t 14], none⟩]))))))) (.seq (.ops false [] [⟨some 2, .p (.mov), [.c (.int .i64 0)], none⟩]) (.ret)))
theorem c79 : FnC Try.prog 79 15 a79 [.tmp 2] := ⟨Try.call79, _, _, Try.func79, rfl, by kernel_rfl, by kernel_rfl, rfl⟩
def a91 : AC := .seq (.ops false [] [⟨some 4, .p (.mov), [.c (.int .i64 0)], none⟩]) (.seq (.seq (.ops false [] [⟨some 5, .p (.mov), [.t 0], none⟩]) (.cond (.t 5) (.seq (.ops false [] [⟨some 4, .p (.mov), [.c (.int .i64 0)], none⟩]) (.ret)) (.skip))) (.seq (.ops false [] [⟨some 6, .p (.mov), [.t 1], none⟩, ⟨some 4, .p (.mov), [.t 6], none⟩]) (.ret)))
theorem c91 : FnC Try.prog 91 7 a91 [.tmp 4] := ⟨Try.call91, _, _, Try.func91, rfl, by kernel_rfl, by kernel_rfl, rfl⟩
def a92 : AC := .seq (.ops false [] [⟨some 1, .box 48 2 1 true, [.t 0], none⟩, ⟨some 2, .p (.mov), [.c (.int .i64 0)], none⟩]) (.seq (.ops false [] [⟨some 3, .p (.faddr 0), [.t 1], none⟩, ⟨some 4, .load 1 false, [.t 3], none⟩, ⟨some 5, .p (.faddr 1), [.t 1], none⟩, ⟨some 6, .load 1 false, [.t 5], none⟩, ⟨some 7, .p (.binI .leq), [.t 4, .t 6], none⟩, ⟨some 8, .call 91, [.t 7, .c (.int .i64 9)], none⟩, ⟨some 2, .p (.mov), [.t 8], none⟩]) (.ret))
theorem c92 : FnC Try.prog 92 9 a92 [.tmp 2] := ⟨Try.call92, _, _, Try.func92, rfl, by kernel_rfl, by kernel_rfl, rfl⟩
def a103 : AC := .seq (.ops false [] [⟨some 6, .p (.mov), [.c (.bool false)], none⟩]) (.seq (.ops false [] [⟨some 7, .p (.mov), [.t 1], none⟩, ⟨some 8, .p (.mov), [.t 0], none⟩, ⟨some 9, .p (.binI .leq), [.t 7, .t 8], none⟩, ⟨some 10, .p (.mov), [.t 9], none⟩, ⟨some 11, .p (.mov), [.t 0], some (10, true)⟩, ⟨some 12, .p (.mov), [.t 2], some (10, true)⟩, ⟨some 13, .p (.binI .leq), [.t 11, .t 12], some (10, true)⟩, ⟨some 14, .p (.pick), [.t 10, .t 13, .c (.bool false)], none⟩, ⟨some 6, .p (.mov), [.t 14], none⟩]) (.ret))
theorem c103 : FnC Try.prog 103 15 a103 [.tmp 6] := ⟨Try.call103, _, _, Try.func103, rfl, by kernel_rfl, by kernel_rfl, rfl⟩
def a113 : AC := .seq (.ops false [] [⟨some 1, .box 90 3 1 true, [.t 0], none⟩, ⟨some 2, .p (.mov), [.c (.int .i64 0)], none⟩]) (.seq (.ops true [] [⟨some 3, .p (.faddr 0), [.t 1], none⟩, ⟨some 4, .load 2 true, [.t 3], none⟩, ⟨some 5, .call 114, [.t 4], none⟩, ⟨some 6, .p (.faddr 2), [.t 1], none⟩, ⟨some 7, .load 1 false, [.t 6], none⟩, ⟨some 8, .call 103, [.t 7, .c (.int .i64 1), .c (.int .i64 10000)], none⟩, ⟨some 9, .call 91, [.t 8, .c (.int .i64 2)], none⟩, ⟨some 10, .fbs 1, [.t 5, .t 9], none⟩, ⟨some 11, .call 79, [.t 10], none⟩, ⟨some 2, .p (.mov), [.t 11], none⟩]) (.ret))
theorem c113 : FnC Try.prog 113 12 a113 [.tmp 2] := ⟨Try.call113, _, _, Try.func113, rfl, by kernel_rfl, by kernel_rfl, rfl⟩
def a114 : AC := .seq (.ops false [] [⟨some 1, .box 44 2 1 true, [.t 0], none⟩, ⟨some 2, .p (.mov), [.c (.int .i64 0)], none⟩]) (.seq (.ops false [] [⟨some 3, .p (.faddr 0), [.t 1], none⟩, ⟨some 4, .load 1 false, [.t 3], none⟩, ⟨some 5, .call 144, [.t 4], none⟩, ⟨some 6, .p (.mov), [.t 5], none⟩, ⟨some 7, .p (.faddr 1), [.t 1], some (6, true)⟩, ⟨some 8, .load 1 false, [.t 7], some (6, true)⟩, ⟨some 9, .call 145, [.t 8], some (6, true)⟩, ⟨some 10, .p (.pick), [.t 6, .t 9, .c (.bool false)], none⟩, ⟨some 11, .call 91, [.t 10, .c (.int .i64 2)], none⟩, ⟨some 2, .p (.mov), [.t 11], none⟩]) (.ret))
theorem c114 : FnC Try.prog 114 12 a114 [.tmp 2] := ⟨Try.call114, _, _, Try.func114, rfl, by kernel_rfl, by kernel_rfl, rfl⟩
def a115 : AC := .seq (.ops false [] [⟨some 3, .box 46 3 1 true, [.t 0], none⟩, ⟨some 4, .box 90 3 1 true, [.t 1], none⟩, ⟨some 5, .box 44 2 1 true, [.t 2], none⟩, ⟨some 6, .p (.mov), [.c (.int .i64 0)], none⟩, ⟨some 7, .p (.mov), [.c (.int .i64 0)], none⟩]) (.seq (.ops true [] [⟨some 12, .p (.faddr 0), [.t 5], none⟩, ⟨some 13, .load 1 false, [.t 12], none⟩, ⟨some 14, .p (.faddr 0), [.t 3], none⟩, ⟨some 15, .p (.faddr 0), [.t 14], none⟩, ⟨some 16, .load 1 false, [.t 15], none⟩, ⟨some 17, .p (.binI .sub), [.t 13, .t 16], none⟩, ⟨some 18, .p (.faddr 1), [.t 5], none⟩, ⟨some 19, .load 1 false, [.t 18], none⟩, ⟨some 20, .p (.faddr 0), [.t 3], none⟩, ⟨some 21, .p (.faddr 1), [.t 20], none⟩, ⟨some 22, .load 1 false, [.t 21], none⟩, ⟨some 23, .p (.binI .sub), [.t 19, .t 22], none⟩, ⟨some 8, .p (.mov), [.t 17], none⟩, ⟨some 9, .p (.mov), [.t 23], none⟩]) (.seq (.ops true [] [⟨some 24, .p (.faddr 0), [.t 5], none⟩, ⟨some 25, .load 1 false, [.t 24], none⟩, ⟨some 26, .p (.faddr 0), [.t 4], none⟩, ⟨some 27, .p (.faddr 0), [.t 26], none⟩, ⟨some 28, .load 1 false, [.t 27], none⟩, ⟨some 29, .p (.binI .sub), [.t 25, .t 28], none⟩, ⟨some 30, .p (.faddr 1), [.t 5], none⟩, ⟨some 31, .load 1 false, [.t 30], none⟩, ⟨some 32, .p (.faddr 0), [.t 4], none⟩, ⟨some 33, .p (.faddr 1), [.t 32], none⟩, ⟨some 34, .load 1 false, [.t 33], none⟩, ⟨some 35, .p (.binI .sub), [.t 31, .t 34], none⟩, ⟨some 10, .p (.mov), [.t 29], none⟩, ⟨some 11, .p (.mov), [.t 35], none⟩]) (.seq (.ops true [] [⟨some 36, .p (.faddr 2), [.t 3], none⟩, ⟨some 37, .load 1 false, [.t 36], none⟩, ⟨some 38, .p (.mov), [.t 8], none⟩, ⟨some 39, .p (.mov), [.t 11], none⟩, ⟨some 40, .p (.binI .mul), [.t 38, .t 39], none⟩, ⟨some 41, .p (.mov), [.t 9], none⟩, ⟨some 42, .p (.mov), [.t 10], none⟩, ⟨some 43, .p (.binI .mul), [.t 41, .t 42], none⟩, ⟨some 44, .p (.binI .sub), [.t 40, .t 43], none⟩, ⟨some 45, .p (.binI .mul), [.t 37, .t 44], none⟩, ⟨some 46, .p (.mov), [.t 8], none⟩, ⟨some 47, .p (.mov), [.t 8], none⟩, ⟨some 48, .p (.binI .mul), [.t 46, .t 47], none⟩, ⟨some 49, .p (.mov), [.t 9], none⟩, ⟨some 50, .p (.mov), [.t 9], none⟩, ⟨some 51, .p (.binI .mul), [.t 49, .t 50], none⟩, ⟨some 52, .p (.binI .add), [.t 48, .t 51], none⟩, ⟨some 53, .p (.faddr 2), [.t 4], none⟩, ⟨some 54, .load 1 false, [.t 53], none⟩, ⟨some 55, .p (.binI .add), [.t 52, .t 54], none⟩, ⟨some 6, .p (.mov), [.t 45], none⟩, ⟨some 7, .p (.mov), [.t 55], none⟩]) (.ret))))
theorem c115 : FnC Try.prog 115 56 a115 [.tmp 6, .tmp 7] := ⟨Try.call115, _, _, Try.func115, rfl, by kernel_rfl, by kernel_rfl, rfl⟩
def a116 : AC := .seq (.ops false [] [⟨some 4, .p (.mov), [.c (.bool false)], none⟩]) (.seq (.ops false [] [⟨some 5, .p (.mov), [.t 0], none⟩, ⟨some 6, .p (.mov), [.t 1], none⟩, ⟨some 7, .p (.neg), [.t 6], none⟩, ⟨some 8, .p (.mov), [.t 1], none⟩, ⟨some 9, .call 103, [.t 5, .t 7, .t 8], none⟩, ⟨some 4, .p (.mov), [.t 9], none⟩]) (.ret))
theorem c116 : FnC Try.prog 116 10 a116 [.tmp 4] := ⟨Try.call116, _, _, Try.func116, rfl, by kernel_rfl, by kernel_rfl, rfl⟩
def a122 : AC := .seq (.ops false [] [⟨some 1, .box 108 4 1 true, [.t 0], none⟩, ⟨some 2, .p (.mov), [.c (.int .i64 0)], none⟩]) (.seq (.ops true [] [⟨some 3, .p (.faddr 0), [.t 1], none⟩, ⟨some 4, .load 2 true, [.t 3], none⟩, ⟨some 5, .call 114, [.t 4], none⟩, ⟨some 6, .p (.faddr 2), [.t 1], none⟩, ⟨some 7, .load 1 false, [.t 6], none⟩, ⟨some 8, .call 147, [.t 7], none⟩, ⟨some 9, .p (.mov), [.t 8], none⟩, ⟨some 10, .p (.faddr 3), [.t 1], some (9, true)⟩, ⟨some 11, .load 1 false, [.t 10], some (9, true)⟩, ⟨some 12, .call 150, [.t 11], some (9, true)⟩, ⟨some 13, .p (.pick), [.t 9, .t 12, .c (.bool false)], none⟩, ⟨some 14, .call 91, [.t 13, .c (.int .i64 2)], none⟩, ⟨some 15, .fbs 1, [.t 5, .t 14], none⟩, ⟨some 16, .call 79, [.t 15], none⟩, ⟨some 2, .p (.mov), [.t 16], none⟩]) (.ret))
theorem c122 : FnC Try.prog 122 17 a122 [.tmp 2] := ⟨Try.call122, _, _, Try.func122, rfl, by kernel_rfl, by kernel_rfl, rfl⟩
def a125 : AC := .seq (.ops false [] [⟨some 3, .box 108 4 1 true, [.t 0], none⟩, ⟨some 4, .box 90 3 1 true, [.t 1], none⟩, ⟨some 5, .box 44 2 1 true, [.t 2], none⟩, ⟨some 6, .p (.mov), [.c (.int .i64 0)], none⟩]) (.seq (.ops false [] [⟨some 15, .load 4 true, [.t 3], none⟩, ⟨some 16, .call 154, [.t 15], none⟩, ⟨some 7, .alloc 204 3 [.agg [.int .i64 0, .int .i64 0, .int .i64 0], .agg [.int .i64 0, .int .i64 0, .int .i64 0]], [], none⟩, ⟨none, .store 6 true, [.t 7, .t 16], none⟩]) (.seq (.ops false [] [⟨some 18, .p (.iaddrA 2 3), [.t 7, .c (.int .i64 0)], none⟩, ⟨some 19, .load 3 true, [.t 18], none⟩, ⟨some 20, .load 3 true, [.t 4], none⟩, ⟨some 21, .load 2 true, [.t 5], none⟩, ⟨some 22, .call 115, [.t 19, .t 20, .t 21], none⟩, ⟨some 17, .p (.mov), [.t 22], none⟩, ⟨some 23, .p (.ext 0), [.t 17], none⟩, ⟨some 24, .p (.ext 1), [.t 17], none⟩, ⟨some 8, .p (.mov), [.t 23], none⟩, ⟨some 9, .p (.mov), [.t 24], none⟩]) (.seq (.ops false [] [⟨some 26, .p (.iaddrA 2 3), [.t 7, .c (.int .i64 1)], none⟩, ⟨some 27, .load 3 true, [.t 26], none⟩, ⟨some 28, .load 3 true, [.t 4], none⟩, ⟨some 29, .load 2 true, [.t 5], none⟩, ⟨some 30, .call 115, [.t 27, .t 28, .t 29], none⟩, ⟨some 25, .p (.mov), [.t 30], none⟩, ⟨some 31, .p (.ext 0), [.t 25], none⟩, ⟨some 32, .p (.ext 1), [.t 25], none⟩, ⟨some 10, .p (.mov), [.t 31], none⟩, ⟨some 11, .p (.mov), [.t 32], none⟩]) (.seq (.ops false [] [⟨some 33, .p (.mov), [.t 8], none⟩, ⟨some 34, .p (.mov), [.t 11], none⟩, ⟨some 35, .p (.binI .mul), [.t 33, .t 34], none⟩, ⟨some 36, .p (.mov), [.t 10], none⟩, ⟨some 37, .p (.mov), [.t 9], none⟩, ⟨some 38, .p (.binI .mul), [.t 36, .t 37], none⟩, ⟨some 39, .p (.binI .add), [.t 35, .t 38], none⟩, ⟨some 40, .p (.mov), [.t 9], none⟩, ⟨some 41, .p (.mov), [.t 11], none⟩, ⟨some 42, .p (.binI .mul), [.t 40, .t 41], none⟩, ⟨some 12, .p (.mov), [.t 39], none⟩, ⟨some 13, .p (.mov), [.t 42], none⟩]) (.seq (.ops false [] [⟨some 43, .p (.mov), [.t 12], none⟩, ⟨some 44, .p (.mov), [.t 13], none⟩, ⟨some 45, .p (.binI .quo), [.t 43, .t 44], none⟩, ⟨some 14, .p (.mov), [.t 45], none⟩]) (.seq (.seq (.ops false [] [⟨some 46, .p (.mov), [.t 12], none⟩, ⟨some 47, .p (.mov), [.t 13], none⟩, ⟨some 48, .p (.binI .rem), [.t 46, .t 47], none⟩, ⟨some 49, .p (.binI .lss), [.t 48, .c (.int .i64 0)], none⟩]) (.cond (.t 49) (.ops false [] [⟨some 50, .p (.mov), [.t 14], none⟩, ⟨some 51, .p (.binI .sub), [.t 50, .c (.int .i64 1)], none⟩, ⟨some 14, .p (.mov), [.t 51], none⟩]) (.skip))) (.seq (.ops false [] [⟨some 52, .p (.mov), [.t 14], none⟩, ⟨some 6, .p (.mov), [.t 52], none⟩]) (.ret))))))))
theorem c125 : FnC Try.prog 125 53 a125 [.tmp 6] := ⟨Try.call125, _, _, Try.func125, rfl, by kernel_rfl, by kernel_rfl, rfl⟩
def a144 : AC := .seq (.ops false [] [⟨some 2, .p (.mov), [.c (.bool false)], none⟩]) (.seq (.ops false [] [⟨some 3, .p (.mov), [.t 0], none⟩, ⟨some 4, .call 116, [.t 3, .c (.int .i64 1000)], none⟩, ⟨some 2, .p (.mov), [.t 4], none⟩]) (.ret))
theorem c144 : FnC Try.prog 144 5 a144 [.tmp 2] := ⟨Try.call144, _, _, Try.func144, rfl, by kernel_rfl, by kernel_rfl, rfl⟩
def a145 : AC := .seq (.ops false [] [⟨some 2, .p (.mov), [.c (.bool false)], none⟩]) (.seq (.ops false [] [⟨some 3, .p (.mov), [.t 0], none⟩, ⟨some 4, .call 103, [.t 3, .c (.int .i64 0), .c (.int .i64 1000)], none⟩, ⟨some 2, .p (.mov), [.t 4], none⟩]) (.ret))
theorem c145 : FnC Try.prog 145 5 a145 [.tmp 2] := ⟨Try.call145, _, _, Try.func145, rfl, by kernel_rfl, by kernel_rfl, rfl⟩
def a147 : AC := .seq (.ops false [] [⟨some 2, .p (.mov), [.c (.bool false)], none⟩]) (.seq (.ops false [] [⟨some 3, .p (.mov), [.t 0], none⟩, ⟨some 4, .call 103, [.t 3, .c (.int .i64 1), .c (.int .i64 100)], none⟩, ⟨some 2, .p (.mov), [.t 4], none⟩]) (.ret))
theorem c147 : FnC Try.prog 147 5 a147 [.tmp 2] := ⟨Try.call147, _, _, Try.func147, rfl, by kernel_rfl, by kernel_rfl, rfl⟩
def a150 : AC := .seq (.ops false [] [⟨some 2, .p (.mov), [.c (.bool false)], none⟩]) (.seq (.ops false [] [⟨some 3, .p (.mov), [.t 0], none⟩, ⟨some 4, .call 103, [.t 3, .c (.int .i64 1), .c (.int .i64 10000)], none⟩, ⟨some 2, .p (.mov), [.t 4], none⟩]) (.ret))
theorem c150 : FnC Try.prog 150 5 a150 [.tmp 2] := ⟨Try.call150, _, _, Try.func150, rfl, by kernel_rfl, by kernel_rfl, rfl⟩
def a154 : AC := .seq (.ops false [] [⟨some 1, .box 108 4 1 true, [.t 0], none⟩, ⟨some 2, .alloc 204 3 [.agg [.int .i64 0, .int .i64 0, .int .i64 0], .agg [.int .i64 0, .int .i64 0, .int .i64 0]], [], none⟩]) (.seq (.ops true [(1, 4), (3, 4), (1, 5), (3, 5), (4, 5), (3, 6)] [⟨some 5, .p (.faddr 0), [.t 1], none⟩, ⟨some 6, .load 2 true, [.t 5], none⟩, ⟨some 7, .p (.faddr 0), [.t 1], none⟩, ⟨some 8, .load 2 true, [.t 7], none⟩, ⟨some 3, .alloc 44 2 [.agg [.int .i64 0, .int .i64 0]], [], none⟩, ⟨some 4, .alloc 44 2 [.agg [.int .i64 0, .int .i64 0]], [], none⟩, ⟨none, .store 2 true, [.t 3, .t 6], none⟩, ⟨none, .store 2 true, [.t 4, .t 8], none⟩]) (.seq (.ops false [] [⟨some 9, .p (.faddr 0), [.t 3], none⟩, ⟨some 10, .load 1 false, [.t 9], none⟩, ⟨some 11, .p (.faddr 2), [.t 1], none⟩, ⟨some 12, .load 1 false, [.t 11], none⟩, ⟨some 13, .p (.binI .sub), [.t 10, .t 12], none⟩, ⟨some 14, .p (.faddr 0), [.t 3], none⟩, ⟨none, .store 1 false, [.t 14, .t 13], none⟩]) (.seq (.ops false [] [⟨some 15, .p (.faddr 0), [.t 4], none⟩, ⟨some 16, .load 1 false, [.t 15], none⟩, ⟨some 17, .p (.faddr 2), [.t 1], none⟩, ⟨some 18, .load 1 false, [.t 17], none⟩, ⟨some 19, .p (.binI .add), [.t 16, .t 18], none⟩, ⟨some 20, .p (.faddr 0), [.t 4], none⟩, ⟨none, .store 1 false, [.t 20, .t 19], none⟩]) (.seq (.ops false [] [⟨some 21, .load 2 true, [.t 3], none⟩, ⟨some 22, .p (.faddr 3), [.t 1], none⟩, ⟨some 23, .load 1 false, [.t 22], none⟩, ⟨some 24, .p (.build [.int .i64 0, .int .i64 0, .int .i64 0] [(0, 2), (2, 1)]), [.t 21, .t 23], none⟩, ⟨some 25, .load 2 true, [.t 4], none⟩, ⟨some 26, .p (.faddr 3), [.t 1], none⟩, ⟨some 27, .load 1 false, [.t 26], none⟩, ⟨some 28, .p (.neg), [.t 27], none⟩, ⟨some 29, .p (.build [.int .i64 0, .int .i64 0, .int .i64 0] [(0, 2), (2, 1)]), [.t 25, .t 28], none⟩, ⟨some 30, .p (.build [.int .i64 0, .int .i64 0, .int .i64 0, .int .i64 0, .int .i64 0, .int .i64 0] [(0, 3), (3, 3)]), [.t 24, .t 29], none⟩, ⟨none, .store 6 true, [.t 2, .t 30], none⟩]) (.ret)))))
theorem c154 : FnC Try.prog 154 31 a154 [.cell 2 6 true] := ⟨Try.call154, _, _, Try.func154, rfl, by kernel_rfl, by kernel_rfl, rfl⟩
namespace Wa
theorem hm : Try.prog.follows .mixedOrders = true := by kernel_rfl
noncomputable abbrev P := Try.prog
structure Rn where
  lo : Int
  hi : Int
  deriving DecidableEq
abbrev eRn (x : Rn) : AV := .agg [I x.lo, I x.hi]
structure Pt where
  y : Int
  z : Int
  deriving DecidableEq
abbrev ePt (x : Pt) : AV := .agg [I x.y, I x.z]
structure Vo where
  y : Int
  z : Int
  s : Int
  deriving DecidableEq
abbrev eVo (x : Vo) : AV := .agg [I x.y, I x.z, I x.s]
def dVo : AV → Option Vo
  | .agg [.int .i64 y, .int .i64 z, .int .i64 s] => some ⟨y, z, s⟩
  | _ => none
theorem dVo_e (x : Vo) : dVo (eVo x) = some x := rfl
theorem dVo_inv (v : AV) (x : Vo) (h : dVo v = some x) : v = eVo x := by
  unfold dVo at h
  split at h
  · cases h; rfl
  · cases h
theorem free_Vo (φ : Nat → Fate) (l : List Vo) : subs φ (l.map eVo) = l.map eVo := subs_mapE φ _ (fun _ => rfl) l
structure Su where
  y : Int
  z : Int
  c : Int
  deriving DecidableEq
abbrev eSu (x : Su) : AV := .agg [I x.y, I x.z, I x.c]
structure Pa where
  y : Int
  z : Int
  h : Int
  s : Int
  deriving DecidableEq
abbrev ePa (x : Pa) : AV := .agg [I x.y, I x.z, I x.h, I x.s]
structure Bx where
  yl : Int
  yh : Int
  zl : Int
  zh : Int
  sl : Int
  sh : Int
  deriving DecidableEq
abbrev eBx (x : Bx) : AV := .agg [I x.yl, I x.yh, I x.zl, I x.zh, I x.sl, I x.sh]
structure Co where
  yl : Int
  yh : Int
  zl : Int
  zh : Int
  lim : Int
  fr : Int
  to : Int
  deriving DecidableEq
abbrev eCo (x : Co) : AV := .agg [I x.yl, I x.yh, I x.zl, I x.zh, I x.lim, I x.fr, I x.to]
abbrev eI (n : Int) : AV := I n
theorem free_I (φ : Nat → Fate) (l : List Int) : subs φ (l.map eI) = l.map eI := subs_mapE φ _ (fun _ => rfl) l
theorem mx {n : Nat} (h : n ≤ 100000) : (n ≤ maxLen) = True := by
  simp only [eq_iff_iff, iff_true]; exact Nat.le_trans h (by decide)
theorem map_inj {α : Type} {e : α → AV} (h : ∀ x y, e x = e y → x = y) : ∀ (l m : List α), l.map e = m.map e → l = m
  | [], [], _ => rfl
  | [], _ :: _, hh => by simp at hh
  | _ :: _, [], hh => by simp at hh
  | x :: l, y :: m, hh => by
    simp only [List.map_cons, List.cons.injEq] at hh
    rw [h x y hh.1, map_inj h l m hh.2]
theorem subs_append (φ : Nat → Fate) : ∀ (a b : List AV), subs φ (a ++ b) = subs φ a ++ subs φ b
  | [], b => rfl
  | v :: a, b => by rw [List.cons_append, subs, subs, subs_append φ a b]; rfl
theorem k_within (n lo hi : Int) : FOk P 103 [I n, I lo, I hi] (.bool (decide (lo ≤ n ∧ n ≤ hi))) := by
  refine c103.fok rfl (Cor.run (noC_good _) (noHx_good _) hm ?_)
  simp +contextual -implicitDefEqProofs (maxSteps := 2000000) only [bg_eq, a103, ruB, rh_no, Int.reduceLT, Int.reduceLE, Int.reduceAdd, Int.reduceSub, Int.reduceMul, Int.reduceNeg, Int.reduceToNat, Int.reduceEq, Int.reduceNe, Int.reduceTDiv, Int.reduceTMod, implies_true, putL, appN, appX, appC, Eng.Fi, reduceCtorEq, exists_eq_left', exists_eq_left, if_true, if_false, List.replicate, Nat.reduceAdd, Nat.reduceSub, Nat.reduceMul, Nat.reduceLeDiff, Nat.reduceLT, Nat.reduceEqDiff]
def cf_within : List AV → Option AV
  | [.int .i64 n, .int .i64 lo, .int .i64 hi] => some (.bool (decide (lo ≤ n ∧ n ≤ hi)))
  | _ => none
theorem g_within : Fn P 103 cf_within := fun args v h => by
  unfold cf_within at h; split at h
  · have h := Option.some.inj h; subst h; exact k_within _ _ _
  · cases h
theorem x_within (n lo hi : Int) : cf_within [.int .i64 n, .int .i64 lo, .int .i64 hi] = some (.bool (decide (lo ≤ n ∧ n ≤ hi))) := rfl
theorem k_Within (n lo hi : Int) : FOk P 20 [I n, I lo, I hi] (.bool (decide (lo ≤ n ∧ n ≤ hi))) := by
  refine c20.fok rfl (Cor.run (noC_good _) (noHx_good _) hm ?_)
  simp +contextual -implicitDefEqProofs (maxSteps := 2000000) only [bg_eq, a20, ruB, rh_no, Int.reduceLT, Int.reduceLE, Int.reduceAdd, Int.reduceSub, Int.reduceMul, Int.reduceNeg, Int.reduceToNat, Int.reduceEq, Int.reduceNe, Int.reduceTDiv, Int.reduceTMod, implies_true, putL, appN, appX, appC, Eng.Fi, reduceCtorEq, exists_eq_left', exists_eq_left, if_true, if_false, List.replicate, Nat.reduceAdd, Nat.reduceSub, Nat.reduceMul, Nat.reduceLeDiff, Nat.reduceLT, Nat.reduceEqDiff]
def cf_Within : List AV → Option AV
  | [.int .i64 n, .int .i64 lo, .int .i64 hi] => some (.bool (decide (lo ≤ n ∧ n ≤ hi)))
  | _ => none
theorem g_Within : Fn P 20 cf_Within := fun args v h => by
  unfold cf_Within at h; split at h
  · have h := Option.some.inj h; subst h; exact k_Within _ _ _
  · cases h
theorem x_Within (n lo hi : Int) : cf_Within [.int .i64 n, .int .i64 lo, .int .i64 hi] = some (.bool (decide (lo ≤ n ∧ n ≤ hi))) := rfl
theorem k_sized (n lim : Int) (hl : 0 ≤ lim ∧ lim ≤ 1099511627776) : FOk P 116 [I n, I lim] (.bool (decide (-lim ≤ n ∧ n ≤ lim))) := by
  have w : IntKind.wrap .i64 (0 - lim) = -lim := by rw [wrap64 (by omega) (by omega)]; omega
  refine c116.fok rfl (Cor.run (addC_good g_within (noC_good _)) (noHx_good _) hm ?_)
  simp +contextual -implicitDefEqProofs (maxSteps := 2000000) only [bg_eq, a116, w, x_within, ruB, rh_no, Int.reduceLT, Int.reduceLE, Int.reduceAdd, Int.reduceSub, Int.reduceMul, Int.reduceNeg, Int.reduceToNat, Int.reduceEq, Int.reduceNe, Int.reduceTDiv, Int.reduceTMod, implies_true, putL, appN, appX, appC, Eng.Fi, reduceCtorEq, exists_eq_left', exists_eq_left, if_true, if_false, List.replicate, Nat.reduceAdd, Nat.reduceSub, Nat.reduceMul, Nat.reduceLeDiff, Nat.reduceLT, Nat.reduceEqDiff]
def cf_sized : List AV → Option AV
  | [.int .i64 n, .int .i64 lim] => if 0 ≤ lim ∧ lim ≤ 1099511627776 then some (.bool (decide (-lim ≤ n ∧ n ≤ lim))) else none
  | _ => none
theorem g_sized : Fn P 116 cf_sized := fun args v hh => by
  unfold cf_sized at hh; split at hh
  · split at hh
    · rename_i hc; have hk := Option.some.inj hh; subst hk; exact k_sized _ _ hc
    · cases hh
  · cases hh
theorem x_sized (n : Int) (lim : Int) (hc : (0 ≤ lim ∧ lim ≤ 1099511627776) = True) : cf_sized [.int .i64 n, .int .i64 lim] = some (.bool (decide (-lim ≤ n ∧ n ≤ lim))) := by
  exact if_pos (by rw [hc]; trivial)
def unl (ok : Prop) [Decidable ok] (e : Int) : Int := if ok then 0 else e
theorem unl_t {ok : Prop} [Decidable ok] (e : Int) (h : ok) : unl ok e = 0 := if_pos h
theorem unl_f {ok : Prop} [Decidable ok] (e : Int) (h : ¬ ok) : unl ok e = e := if_neg h
theorem unl_zero {p : Prop} [Decidable p] {e : Int} (h : unl p e = 0) (he : e ≠ 0) : p := by
  unfold unl at h
  split at h
  · assumption
  · exact absurd h he
theorem k_unless (ok : Bool) (e : Int) : FOk P 91 [B ok, I e] (I (unl (ok = true) e)) := by
  refine c91.fok rfl (Cor.run (noC_good _) (noHx_good _) hm ?_)
  simp +contextual -implicitDefEqProofs (maxSteps := 2000000) only [bg_eq, a91, CV_b, ruB, rh_no, Int.reduceLT, Int.reduceLE, Int.reduceAdd, Int.reduceSub, Int.reduceMul, Int.reduceNeg, Int.reduceToNat, Int.reduceEq, Int.reduceNe, Int.reduceTDiv, Int.reduceTMod, implies_true, putL, appN, appX, appC, Eng.Fi, reduceCtorEq, exists_eq_left', exists_eq_left, if_true, if_false, List.replicate, Nat.reduceAdd, Nat.reduceSub, Nat.reduceMul, Nat.reduceLeDiff, Nat.reduceLT, Nat.reduceEqDiff]
  simp only [unl]
  cases ok <;> simp
def cf_unless : List AV → Option AV
  | [.bool ok, .int .i64 e] => some (I (unl (ok = true) e))
  | _ => none
theorem g_unless : Fn P 91 cf_unless := fun args v h => by
  unfold cf_unless at h; split at h
  · cases h; exact k_unless _ _
  · cases h
theorem x_unless (p : Prop) [Decidable p] (e : Int) : cf_unless [.bool (decide p), .int .i64 e] = some (.int .i64 (unl p e)) := by simp [cf_unless, unl]
def firstE : List Int → Int
  | [] => 0
  | e :: l => if e = 0 then firstE l else e
def S86 (l : List Int) (n : Nat) : AState := ⟨[.vs (l.map I), .any, I 0, .any, .any, .vs (l.map I), I l.length, I n, .any, .any, .any, .any, .any, .any, .any], [], 0⟩
theorem k_first (l : List Int) (hl : l.length ≤ 1099511627776) : FOk P 79 [.vs (l.map I)] (I (firstE l)) := by
  refine c79.fok (by simp only [subs, sub1, subs_I]) (Cor.run (noC_good _) (noHx_good _) hm ?_)
  simp +contextual -implicitDefEqProofs (maxSteps := 2000000) only [bg_eq, a79, List.length_map, ruB, rh_no, Int.reduceLT, Int.reduceLE, Int.reduceAdd, Int.reduceSub, Int.reduceMul, Int.reduceNeg, Int.reduceToNat, Int.reduceEq, Int.reduceNe, Int.reduceTDiv, Int.reduceTMod, implies_true, putL, appN, appX, appC, Eng.Fi, reduceCtorEq, exists_eq_left', exists_eq_left, if_true, if_false, List.replicate, Nat.reduceAdd, Nat.reduceSub, Nat.reduceMul, Nat.reduceLeDiff, Nat.reduceLT, Nat.reduceEqDiff]
  refine Cor.lp (noC_good _) (noHx_good _) hm (S86 l) (fun n => n ≤ l.length ∧ firstE l = firstE (l.drop n)) (fun n => l.length - n) (a := 0) ⟨Nat.zero_le _, by simp⟩ (Wkn.keep [0, 2, 5, 6, 7] rfl) ?_
  intro f n ⟨hn, hf⟩ go
  rcases Nat.lt_or_ge n l.length with h | h
  · have e1 : decide ((n : Int) < (l.length : Int)) = true := lt_t h
    have e2 : (l.map I)[n]? = some (I l[n]) := get_e I l h
    have e3 : IntKind.wrap .i64 ((n : Int) + 1) = ((n + 1 : Nat) : Int) := suc_w (by omega)
    have e4 : l.drop n = l[n] :: l.drop (n + 1) := List.drop_eq_getElem_cons h
    rw [e4] at hf
    simp +contextual -implicitDefEqProofs (maxSteps := 2000000) only [S86, e1, e2, e3, ruB, rh_no, Int.reduceLT, Int.reduceLE, Int.reduceAdd, Int.reduceSub, Int.reduceMul, Int.reduceNeg, Int.reduceToNat, Int.reduceEq, Int.reduceNe, Int.reduceTDiv, Int.reduceTMod, implies_true, putL, appN, appX, appC, Eng.Fi, reduceCtorEq, exists_eq_left', exists_eq_left, if_true, if_false, List.replicate, Nat.reduceAdd, Nat.reduceSub, Nat.reduceMul, Nat.reduceLeDiff, Nat.reduceLT, Nat.reduceEqDiff]
    refine ⟨fun h0 => ?_, fun h0 => go _ (n + 1) ⟨h, ?_⟩ (by omega) (Wkn.keep [0, 2, 5, 6, 7] rfl)⟩
    · rw [hf, firstE, if_neg h0]
    · rw [hf, firstE, if_pos h0]
  · have e1 : decide ((n : Int) < (l.length : Int)) = false := lt_f h
    simp +contextual -implicitDefEqProofs (maxSteps := 2000000) only [S86, e1, ruB, rh_no, Int.reduceLT, Int.reduceLE, Int.reduceAdd, Int.reduceSub, Int.reduceMul, Int.reduceNeg, Int.reduceToNat, Int.reduceEq, Int.reduceNe, Int.reduceTDiv, Int.reduceTMod, implies_true, putL, appN, appX, appC, Eng.Fi, reduceCtorEq, exists_eq_left', exists_eq_left, if_true, if_false, List.replicate, Nat.reduceAdd, Nat.reduceSub, Nat.reduceMul, Nat.reduceLeDiff, Nat.reduceLT, Nat.reduceEqDiff]
    rw [hf, List.drop_eq_nil_of_le h]; rfl
def rfirst : Option (List Int) → Option AV
  | some l => if l.length ≤ 1099511627776 then some (I (firstE l)) else none
  | none => none
def cf_first : List AV → Option AV
  | [.vs vals] => rfirst (decL decI vals)
  | _ => none
theorem g_first : Fn P 79 cf_first := fun args v h => by
  unfold cf_first at h; split at h
  · unfold rfirst at h; split at h
    · rename_i l h1
      split at h
      · cases h; rw [decL_inv decI I (fun v x => decI_inv) h1]; exact k_first l ‹_›
      · cases h
    · cases h
  · cases h
theorem x_first (vals : List AV) : cf_first [.vs vals] = rfirst (decL decI vals) := rfl
theorem y_first (l : List Int) (h : (l.length ≤ 1099511627776) = True) : rfirst (some l) = some (.int .i64 (firstE l)) := by simp only [rfirst, h, if_true]
theorem firstE_zero : ∀ {l : List Int}, firstE l = 0 → ∀ e ∈ l, e = 0
  | [], _, e, he => by simp at he
  | x :: l, h, e, he => by
    simp only [firstE] at h
    split at h
    · rename_i hx
      rcases List.mem_cons.1 he with rfl | he
      · exact hx
      · exact firstE_zero h e he
    · rename_i hx; exact absurd h hx
theorem firstE_all : ∀ {l : List Int}, (∀ e ∈ l, e = 0) → firstE l = 0
  | [], _ => rfl
  | x :: l, h => by rw [firstE, if_pos (h x (by simp))]; exact firstE_all fun e he => h e (by simp [he])
theorem k_orderErr (a b : Int) : FOk P 92 [eRn ⟨a, b⟩] (I (unl (a ≤ b) 9)) := by
  refine c92.fok rfl (Cor.run (addC_good g_unless (noC_good _)) (noHx_good _) hm ?_)
  simp +contextual -implicitDefEqProofs (maxSteps := 2000000) only [bg_eq, a92, x_unless, ruB, rh_no, Int.reduceLT, Int.reduceLE, Int.reduceAdd, Int.reduceSub, Int.reduceMul, Int.reduceNeg, Int.reduceToNat, Int.reduceEq, Int.reduceNe, Int.reduceTDiv, Int.reduceTMod, implies_true, putL, appN, appX, appC, Eng.Fi, reduceCtorEq, exists_eq_left', exists_eq_left, if_true, if_false, List.replicate, Nat.reduceAdd, Nat.reduceSub, Nat.reduceMul, Nat.reduceLeDiff, Nat.reduceLT, Nat.reduceEqDiff]
def cf_orderErr : List AV → Option AV
  | [.agg [.int .i64 a, .int .i64 b]] => some (.int .i64 (unl (a ≤ b) 9))
  | _ => none
theorem g_orderErr : Fn P 92 cf_orderErr := fun args v h => by
  unfold cf_orderErr at h; split at h
  · have h := Option.some.inj h; subst h; exact k_orderErr _ _
  · cases h
theorem x_orderErr (a b : Int) : cf_orderErr [.agg [.int .i64 a, .int .i64 b]] = some (.int .i64 (unl (a ≤ b) 9)) := rfl
def siR (n : Int) : Prop := -1000 ≤ n ∧ n ≤ 1000
def heR (n : Int) : Prop := 0 ≤ n ∧ n ≤ 1000
instance (n : Int) : Decidable (siR n) := by unfold siR; infer_instance
instance (n : Int) : Decidable (heR n) := by unfold heR; infer_instance
theorem x_sized' (n lim : Int) (h : (0 ≤ lim ∧ lim ≤ 1099511627776) = True) (m : Int) (hm : -lim = m) : cf_sized [.int .i64 n, .int .i64 lim] = some (.bool (decide (m ≤ n ∧ n ≤ lim))) := by subst hm; exact x_sized n lim h
theorem k_isSide (n : Int) : FOk P 144 [I n] (.bool (decide (siR n))) := by
  have y := x_sized' n 1000 (by simp) (-1000) rfl
  refine c144.fok rfl (Cor.run (addC_good g_sized (noC_good _)) (noHx_good _) hm ?_)
  simp +contextual -implicitDefEqProofs (maxSteps := 2000000) only [bg_eq, a144, y, siR, ruB, rh_no, Int.reduceLT, Int.reduceLE, Int.reduceAdd, Int.reduceSub, Int.reduceMul, Int.reduceNeg, Int.reduceToNat, Int.reduceEq, Int.reduceNe, Int.reduceTDiv, Int.reduceTMod, implies_true, putL, appN, appX, appC, Eng.Fi, reduceCtorEq, exists_eq_left', exists_eq_left, if_true, if_false, List.replicate, Nat.reduceAdd, Nat.reduceSub, Nat.reduceMul, Nat.reduceLeDiff, Nat.reduceLT, Nat.reduceEqDiff]
def cf_isSide : List AV → Option AV
  | [.int .i64 n] => some (.bool (decide (siR n)))
  | _ => none
theorem g_isSide : Fn P 144 cf_isSide := fun args v h => by
  unfold cf_isSide at h; split at h
  · have h := Option.some.inj h; subst h; exact k_isSide _
  · cases h
theorem x_isSide (n : Int) : cf_isSide [.int .i64 n] = some (.bool (decide (siR n))) := rfl
theorem k_isHeight (n : Int) : FOk P 145 [I n] (.bool (decide (heR n))) := by
  refine c145.fok rfl (Cor.run (addC_good g_within (noC_good _)) (noHx_good _) hm ?_)
  simp +contextual -implicitDefEqProofs (maxSteps := 2000000) only [bg_eq, a145, x_within, heR, ruB, rh_no, Int.reduceLT, Int.reduceLE, Int.reduceAdd, Int.reduceSub, Int.reduceMul, Int.reduceNeg, Int.reduceToNat, Int.reduceEq, Int.reduceNe, Int.reduceTDiv, Int.reduceTMod, implies_true, putL, appN, appX, appC, Eng.Fi, reduceCtorEq, exists_eq_left', exists_eq_left, if_true, if_false, List.replicate, Nat.reduceAdd, Nat.reduceSub, Nat.reduceMul, Nat.reduceLeDiff, Nat.reduceLT, Nat.reduceEqDiff]
def cf_isHeight : List AV → Option AV
  | [.int .i64 n] => some (.bool (decide (heR n)))
  | _ => none
theorem g_isHeight : Fn P 145 cf_isHeight := fun args v h => by
  unfold cf_isHeight at h; split at h
  · have h := Option.some.inj h; subst h; exact k_isHeight _
  · cases h
theorem x_isHeight (n : Int) : cf_isHeight [.int .i64 n] = some (.bool (decide (heR n))) := rfl
def ptR (p : Pt) : Prop := siR p.y ∧ heR p.z
instance (p : Pt) : Decidable (ptR p) := by unfold ptR; infer_instance
def ptE (p : Pt) : Int := unl (ptR p) 2
theorem k_pointErr (y z : Int) : FOk P 114 [ePt ⟨y, z⟩] (I (ptE ⟨y, z⟩)) := by
  refine c114.fok rfl (Cor.run (addC_good g_unless (addC_good g_isHeight (addC_good g_isSide (noC_good _)))) (noHx_good _) hm ?_)
  simp +contextual -implicitDefEqProofs (maxSteps := 2000000) only [bg_eq, a114, x_isSide, x_isHeight, x_unless, ptE, ptR, ruB, rh_no, Int.reduceLT, Int.reduceLE, Int.reduceAdd, Int.reduceSub, Int.reduceMul, Int.reduceNeg, Int.reduceToNat, Int.reduceEq, Int.reduceNe, Int.reduceTDiv, Int.reduceTMod, implies_true, putL, appN, appX, appC, Eng.Fi, reduceCtorEq, exists_eq_left', exists_eq_left, if_true, if_false, List.replicate, Nat.reduceAdd, Nat.reduceSub, Nat.reduceMul, Nat.reduceLeDiff, Nat.reduceLT, Nat.reduceEqDiff]
def cf_pointErr : List AV → Option AV
  | [.agg [.int .i64 y, .int .i64 z]] => some (.int .i64 (ptE ⟨y, z⟩))
  | _ => none
theorem g_pointErr : Fn P 114 cf_pointErr := fun args v h => by
  unfold cf_pointErr at h; split at h
  · have h := Option.some.inj h; subst h; exact k_pointErr _ _
  · cases h
theorem x_pointErr (y z : Int) : cf_pointErr [.agg [.int .i64 y, .int .i64 z]] = some (.int .i64 (ptE ⟨y, z⟩)) := rfl
def suE (s : Su) : Int := firstE [ptE ⟨s.y, s.z⟩, unl (1 ≤ s.c ∧ s.c ≤ 10000) 2]
theorem k_setupErr (y z c : Int) : FOk P 113 [eSu ⟨y, z, c⟩] (I (suE ⟨y, z, c⟩)) := by
  refine c113.fok rfl (Cor.run (addC_good g_first (addC_good g_unless (addC_good g_within (addC_good g_pointErr (noC_good _))))) (noHx_good _) hm ?_)
  simp +contextual -implicitDefEqProofs (maxSteps := 2000000) only [bg_eq, a113, x_pointErr, x_within, x_unless, x_first, y_first, suE, ruB, rh_no, Int.reduceLT, Int.reduceLE, Int.reduceAdd, Int.reduceSub, Int.reduceMul, Int.reduceNeg, Int.reduceToNat, Int.reduceEq, Int.reduceNe, Int.reduceTDiv, Int.reduceTMod, implies_true, putL, appN, appX, appC, Eng.Fi, reduceCtorEq, exists_eq_left', exists_eq_left, if_true, if_false, List.replicate, Nat.reduceAdd, Nat.reduceSub, Nat.reduceMul, Nat.reduceLeDiff, Nat.reduceLT, Nat.reduceEqDiff]
def cf_setupErr : List AV → Option AV
  | [.agg [.int .i64 y, .int .i64 z, .int .i64 c]] => some (.int .i64 (suE ⟨y, z, c⟩))
  | _ => none
theorem g_setupErr : Fn P 113 cf_setupErr := fun args v h => by
  unfold cf_setupErr at h; split at h
  · have h := Option.some.inj h; subst h; exact k_setupErr _ _ _
  · cases h
theorem x_setupErr (y z c : Int) : cf_setupErr [.agg [.int .i64 y, .int .i64 z, .int .i64 c]] = some (.int .i64 (suE ⟨y, z, c⟩)) := rfl
theorem k_isHalf (n : Int) : FOk P 147 [I n] (.bool (decide (1 ≤ n ∧ n ≤ 100))) := by
  refine c147.fok rfl (Cor.run (addC_good g_within (noC_good _)) (noHx_good _) hm ?_)
  simp +contextual -implicitDefEqProofs (maxSteps := 2000000) only [bg_eq, a147, x_within, ruB, rh_no, Int.reduceLT, Int.reduceLE, Int.reduceAdd, Int.reduceSub, Int.reduceMul, Int.reduceNeg, Int.reduceToNat, Int.reduceEq, Int.reduceNe, Int.reduceTDiv, Int.reduceTMod, implies_true, putL, appN, appX, appC, Eng.Fi, reduceCtorEq, exists_eq_left', exists_eq_left, if_true, if_false, List.replicate, Nat.reduceAdd, Nat.reduceSub, Nat.reduceMul, Nat.reduceLeDiff, Nat.reduceLT, Nat.reduceEqDiff]
def cf_isHalf : List AV → Option AV
  | [.int .i64 n] => some (.bool (decide (1 ≤ n ∧ n ≤ 100)))
  | _ => none
theorem g_isHalf : Fn P 147 cf_isHalf := fun args v h => by
  unfold cf_isHalf at h; split at h
  · have h := Option.some.inj h; subst h; exact k_isHalf _
  · cases h
theorem x_isHalf (n : Int) : cf_isHalf [.int .i64 n] = some (.bool (decide (1 ≤ n ∧ n ≤ 100))) := rfl
theorem k_isStrength (n : Int) : FOk P 150 [I n] (.bool (decide (1 ≤ n ∧ n ≤ 10000))) := by
  refine c150.fok rfl (Cor.run (addC_good g_within (noC_good _)) (noHx_good _) hm ?_)
  simp +contextual -implicitDefEqProofs (maxSteps := 2000000) only [bg_eq, a150, x_within, ruB, rh_no, Int.reduceLT, Int.reduceLE, Int.reduceAdd, Int.reduceSub, Int.reduceMul, Int.reduceNeg, Int.reduceToNat, Int.reduceEq, Int.reduceNe, Int.reduceTDiv, Int.reduceTMod, implies_true, putL, appN, appX, appC, Eng.Fi, reduceCtorEq, exists_eq_left', exists_eq_left, if_true, if_false, List.replicate, Nat.reduceAdd, Nat.reduceSub, Nat.reduceMul, Nat.reduceLeDiff, Nat.reduceLT, Nat.reduceEqDiff]
def cf_isStrength : List AV → Option AV
  | [.int .i64 n] => some (.bool (decide (1 ≤ n ∧ n ≤ 10000)))
  | _ => none
theorem g_isStrength : Fn P 150 cf_isStrength := fun args v h => by
  unfold cf_isStrength at h; split at h
  · have h := Option.some.inj h; subst h; exact k_isStrength _
  · cases h
theorem x_isStrength (n : Int) : cf_isStrength [.int .i64 n] = some (.bool (decide (1 ≤ n ∧ n ≤ 10000))) := rfl
def paE (p : Pa) : Int := firstE [ptE ⟨p.y, p.z⟩, unl ((1 ≤ p.h ∧ p.h ≤ 100) ∧ (1 ≤ p.s ∧ p.s ≤ 10000)) 2]
theorem k_CheckPair (y z h s : Int) : FOk P 122 [ePa ⟨y, z, h, s⟩] (I (paE ⟨y, z, h, s⟩)) := by
  refine c122.fok rfl (Cor.run (addC_good g_first (addC_good g_unless (addC_good g_isStrength (addC_good g_isHalf (addC_good g_pointErr (noC_good _)))))) (noHx_good _) hm ?_)
  simp +contextual -implicitDefEqProofs (maxSteps := 2000000) only [bg_eq, a122, x_pointErr, x_isHalf, x_isStrength, x_unless, x_first, y_first, paE, ruB, rh_no, Int.reduceLT, Int.reduceLE, Int.reduceAdd, Int.reduceSub, Int.reduceMul, Int.reduceNeg, Int.reduceToNat, Int.reduceEq, Int.reduceNe, Int.reduceTDiv, Int.reduceTMod, implies_true, putL, appN, appX, appC, Eng.Fi, reduceCtorEq, exists_eq_left', exists_eq_left, if_true, if_false, List.replicate, Nat.reduceAdd, Nat.reduceSub, Nat.reduceMul, Nat.reduceLeDiff, Nat.reduceLT, Nat.reduceEqDiff]
def cf_CheckPair : List AV → Option AV
  | [.agg [.int .i64 y, .int .i64 z, .int .i64 h, .int .i64 s]] => some (.int .i64 (paE ⟨y, z, h, s⟩))
  | _ => none
theorem g_CheckPair : Fn P 122 cf_CheckPair := fun args v h => by
  unfold cf_CheckPair at h; split at h
  · have h := Option.some.inj h; subst h; exact k_CheckPair _ _ _ _
  · cases h
theorem x_CheckPair (y z h s : Int) : cf_CheckPair [.agg [.int .i64 y, .int .i64 z, .int .i64 h, .int .i64 s]] = some (.int .i64 (paE ⟨y, z, h, s⟩)) := rfl
end Wa
open Go Go.Proofs Eng
set_option maxRecDepth 100000
set_option linter.unusedSimpArgs false
set_option linter.unusedVariables false
namespace Wa
theorem mul_bd {a b A B : Int} (ha : -A ≤ a ∧ a ≤ A) (hb : -B ≤ b ∧ b ≤ B) : -(A * B) ≤ a * b ∧ a * b ≤ A * B := by
  have h1 : a.natAbs ≤ A.natAbs := by omega
  have h2 : b.natAbs ≤ B.natAbs := by omega
  have h3 := Nat.mul_le_mul h1 h2
  rw [← Int.natAbs_mul, ← Int.natAbs_mul] at h3
  have h4 : 0 ≤ A * B := Int.mul_nonneg (by omega) (by omega)
  generalize a * b = x at *
  generalize A * B = y at *
  omega
theorem ro_32 (a b c d e f : AV) : rowsOf 3 2 [a, b, c, d, e, f] = [.agg [a, b, c], .agg [d, e, f]] := rfl
def paB (p : Pa) : Prop := (ptR ⟨p.y, p.z⟩ ∧ (0 ≤ p.h ∧ p.h ≤ 100)) ∧ (-10000 ≤ p.s ∧ p.s ≤ 10000)
instance (p : Pa) : Decidable (paB p) := by unfold paB; infer_instance
theorem k_vortices (p : Pa) (hp : paB p) : FOk P 154 [ePa p] (.agg [I (p.y - p.h), I p.z, I p.s, I (p.y + p.h), I p.z, I (-p.s)]) := by
  unfold paB ptR siR heR at hp
  simp only at hp
  have w1 : IntKind.wrap .i64 (p.y - p.h) = p.y - p.h := wrap64 (by omega) (by omega)
  have w2 : IntKind.wrap .i64 (p.y + p.h) = p.y + p.h := wrap64 (by omega) (by omega)
  have w3 : IntKind.wrap .i64 (0 - p.s) = -p.s := by rw [wrap64 (by omega) (by omega)]; omega
  refine c154.fok rfl (Cor.run (noC_good _) (noHx_good _) hm ?_)
  simp +contextual -implicitDefEqProofs (maxSteps := 2000000) only [bg_eq, a154, w1, w2, w3, ro_32, ruB, rh_no, Int.reduceLT, Int.reduceLE, Int.reduceAdd, Int.reduceSub, Int.reduceMul, Int.reduceNeg, Int.reduceToNat, Int.reduceEq, Int.reduceNe, Int.reduceTDiv, Int.reduceTMod, implies_true, putL, appN, appX, appC, Eng.Fi, reduceCtorEq, exists_eq_left', exists_eq_left, if_true, if_false, List.replicate, Nat.reduceAdd, Nat.reduceSub, Nat.reduceMul, Nat.reduceLeDiff, Nat.reduceLT, Nat.reduceEqDiff]
def cf_vortices : List AV → Option AV
  | [.agg [.int .i64 p_y, .int .i64 p_z, .int .i64 p_h, .int .i64 p_s]] => if paB (⟨p_y, p_z, p_h, p_s⟩ : Pa) then some (.agg [I ((⟨p_y, p_z, p_h, p_s⟩ : Pa).y - (⟨p_y, p_z, p_h, p_s⟩ : Pa).h), I (⟨p_y, p_z, p_h, p_s⟩ : Pa).z, I (⟨p_y, p_z, p_h, p_s⟩ : Pa).s, I ((⟨p_y, p_z, p_h, p_s⟩ : Pa).y + (⟨p_y, p_z, p_h, p_s⟩ : Pa).h), I (⟨p_y, p_z, p_h, p_s⟩ : Pa).z, I (-(⟨p_y, p_z, p_h, p_s⟩ : Pa).s)]) else none
  | _ => none
theorem g_vortices : Fn P 154 cf_vortices := fun args v hh => by
  unfold cf_vortices at hh; split at hh
  · split at hh
    · rename_i hc; have hk := Option.some.inj hh; subst hk; exact k_vortices ⟨_, _, _, _⟩ hc
    · cases hh
  · cases hh
theorem x_vortices (p : Pa) (hc : (paB p) = True) : cf_vortices [.agg [I p.y, I p.z, I p.h, I p.s]] = some (.agg [I (p.y - p.h), I p.z, I p.s, I (p.y + p.h), I p.z, I (-p.s)]) := by
  exact if_pos (by rw [hc]; trivial)
def rnV (v : Vo) (s : Su) (p : Pt) : Int := v.s * ((p.y - v.y) * (p.z - s.z) - (p.z - v.z) * (p.y - s.y))
def rdV (v : Vo) (s : Su) (p : Pt) : Int := (p.y - v.y) * (p.y - v.y) + (p.z - v.z) * (p.z - v.z) + s.c
def suR (s : Su) : Prop := ptR ⟨s.y, s.z⟩ ∧ (1 ≤ s.c ∧ s.c ≤ 10000)
instance (s : Su) : Decidable (suR s) := by unfold suR; infer_instance
def raB (v : Vo) (s : Su) (p : Pt) : Prop := (((-1100 ≤ v.y ∧ v.y ≤ 1100) ∧ heR v.z) ∧ (-10000 ≤ v.s ∧ v.s ≤ 10000)) ∧ suR s ∧ ptR p
instance (v : Vo) (s : Su) (p : Pt) : Decidable (raB v s p) := by unfold raB; infer_instance
theorem ra_bd {v : Vo} {s : Su} {p : Pt} (h : raB v s p) : (-41000000000 ≤ rnV v s p ∧ rnV v s p ≤ 41000000000) ∧ (1 ≤ rdV v s p ∧ rdV v s p ≤ 6000000) := by
  unfold raB suR ptR siR heR at h
  simp only at h
  have p1 := mul_bd (a := p.y - v.y) (b := p.z - s.z) (A := 2100) (B := 1000) (by omega) (by omega)
  have p2 := mul_bd (a := p.z - v.z) (b := p.y - s.y) (A := 1000) (B := 2000) (by omega) (by omega)
  have p3 := mul_bd (a := v.s) (b := (p.y - v.y) * (p.z - s.z) - (p.z - v.z) * (p.y - s.y)) (A := 10000) (B := 4100000) (by omega) (by omega)
  have p4 := mul_bd (a := p.y - v.y) (b := p.y - v.y) (A := 2100) (B := 2100) (by omega) (by omega)
  have p5 := mul_bd (a := p.z - v.z) (b := p.z - v.z) (A := 1000) (B := 1000) (by omega) (by omega)
  have q4 : 0 ≤ (p.y - v.y) * (p.y - v.y) := by
    rcases Int.le_total 0 (p.y - v.y) with g | g
    · exact Int.mul_nonneg g g
    · exact Int.mul_nonneg_of_nonpos_of_nonpos g g
  have q5 : 0 ≤ (p.z - v.z) * (p.z - v.z) := by
    rcases Int.le_total 0 (p.z - v.z) with g | g
    · exact Int.mul_nonneg g g
    · exact Int.mul_nonneg_of_nonpos_of_nonpos g g
  unfold rnV rdV
  omega
theorem k_radial (v : Vo) (s : Su) (p : Pt) (h : raB v s p) : FOk P 115 [eVo v, eSu s, ePt p] (.tup [I (rnV v s p), I (rdV v s p)]) := by
  have hb := ra_bd h
  unfold raB suR ptR siR heR at h
  simp only at h
  have p1 := mul_bd (a := p.y - v.y) (b := p.z - s.z) (A := 2100) (B := 1000) (by omega) (by omega)
  have p2 := mul_bd (a := p.z - v.z) (b := p.y - s.y) (A := 1000) (B := 2000) (by omega) (by omega)
  have p4 := mul_bd (a := p.y - v.y) (b := p.y - v.y) (A := 2100) (B := 2100) (by omega) (by omega)
  have p5 := mul_bd (a := p.z - v.z) (b := p.z - v.z) (A := 1000) (B := 1000) (by omega) (by omega)
  have e1 : IntKind.wrap .i64 (p.y - v.y) = p.y - v.y := wrap64 (by omega) (by omega)
  have e2 : IntKind.wrap .i64 (p.z - v.z) = p.z - v.z := wrap64 (by omega) (by omega)
  have e3 : IntKind.wrap .i64 (p.y - s.y) = p.y - s.y := wrap64 (by omega) (by omega)
  have e4 : IntKind.wrap .i64 (p.z - s.z) = p.z - s.z := wrap64 (by omega) (by omega)
  have e5 : IntKind.wrap .i64 ((p.y - v.y) * (p.z - s.z)) = (p.y - v.y) * (p.z - s.z) := wrap64 (by omega) (by omega)
  have e6 : IntKind.wrap .i64 ((p.z - v.z) * (p.y - s.y)) = (p.z - v.z) * (p.y - s.y) := wrap64 (by omega) (by omega)
  have e7 : IntKind.wrap .i64 ((p.y - v.y) * (p.z - s.z) - (p.z - v.z) * (p.y - s.y)) = (p.y - v.y) * (p.z - s.z) - (p.z - v.z) * (p.y - s.y) := wrap64 (by omega) (by omega)
  have e8 : IntKind.wrap .i64 (v.s * ((p.y - v.y) * (p.z - s.z) - (p.z - v.z) * (p.y - s.y))) = rnV v s p := wrap64 (by unfold rnV at hb; omega) (by unfold rnV at hb; omega)
  have e9 : IntKind.wrap .i64 ((p.y - v.y) * (p.y - v.y)) = (p.y - v.y) * (p.y - v.y) := wrap64 (by omega) (by omega)
  have f1 : IntKind.wrap .i64 ((p.z - v.z) * (p.z - v.z)) = (p.z - v.z) * (p.z - v.z) := wrap64 (by omega) (by omega)
  have f2 : IntKind.wrap .i64 ((p.y - v.y) * (p.y - v.y) + (p.z - v.z) * (p.z - v.z)) = (p.y - v.y) * (p.y - v.y) + (p.z - v.z) * (p.z - v.z) := wrap64 (by omega) (by omega)
  have f3 : IntKind.wrap .i64 ((p.y - v.y) * (p.y - v.y) + (p.z - v.z) * (p.z - v.z) + s.c) = rdV v s p := wrap64 (by omega) (by omega)
  refine c115.fok rfl (Cor.run (noC_good _) (noHx_good _) hm ?_)
  simp +contextual -implicitDefEqProofs (maxSteps := 2000000) only [bg_eq, a115, e1, e2, e3, e4, e5, e6, e7, e8, e9, f1, f2, f3, ruB, rh_no, Int.reduceLT, Int.reduceLE, Int.reduceAdd, Int.reduceSub, Int.reduceMul, Int.reduceNeg, Int.reduceToNat, Int.reduceEq, Int.reduceNe, Int.reduceTDiv, Int.reduceTMod, implies_true, putL, appN, appX, appC, Eng.Fi, reduceCtorEq, exists_eq_left', exists_eq_left, if_true, if_false, List.replicate, Nat.reduceAdd, Nat.reduceSub, Nat.reduceMul, Nat.reduceLeDiff, Nat.reduceLT, Nat.reduceEqDiff]
def cf_radial : List AV → Option AV
  | [.agg [.int .i64 v_y, .int .i64 v_z, .int .i64 v_s], .agg [.int .i64 s_y, .int .i64 s_z, .int .i64 s_c], .agg [.int .i64 p_y, .int .i64 p_z]] => if raB (⟨v_y, v_z, v_s⟩ : Vo) (⟨s_y, s_z, s_c⟩ : Su) (⟨p_y, p_z⟩ : Pt) then some (.tup [I (rnV (⟨v_y, v_z, v_s⟩ : Vo) (⟨s_y, s_z, s_c⟩ : Su) (⟨p_y, p_z⟩ : Pt)), I (rdV (⟨v_y, v_z, v_s⟩ : Vo) (⟨s_y, s_z, s_c⟩ : Su) (⟨p_y, p_z⟩ : Pt))]) else none
  | _ => none
theorem g_radial : Fn P 115 cf_radial := fun args v hh => by
  unfold cf_radial at hh; split at hh
  · split at hh
    · rename_i hc; have hk := Option.some.inj hh; subst hk; exact k_radial ⟨_, _, _⟩ ⟨_, _, _⟩ ⟨_, _⟩ hc
    · cases hh
  · cases hh
theorem x_radial (v : Vo) (s : Su) (p : Pt) (hc : (raB v s p) = True) : cf_radial [.agg [I v.y, I v.z, I v.s], .agg [I s.y, I s.z, I s.c], .agg [I p.y, I p.z]] = some (.tup [I (rnV v s p), I (rdV v s p)]) := by
  exact if_pos (by rw [hc]; trivial)
def vL (p : Pa) : Vo := ⟨p.y - p.h, p.z, p.s⟩
def vR (p : Pa) : Vo := ⟨p.y + p.h, p.z, -p.s⟩
def prN (p : Pa) (s : Su) (q : Pt) : Int := rnV (vL p) s q * rdV (vR p) s q + rnV (vR p) s q * rdV (vL p) s q
def prD (p : Pa) (s : Su) (q : Pt) : Int := rdV (vL p) s q * rdV (vR p) s q
def prV (p : Pa) (s : Su) (q : Pt) : Int := if (prN p s q).tmod (prD p s q) < 0 then (prN p s q).tdiv (prD p s q) - 1 else (prN p s q).tdiv (prD p s q)
def prB (p : Pa) (s : Su) (q : Pt) : Prop := paB p ∧ suR s ∧ ptR q
instance (p : Pa) (s : Su) (q : Pt) : Decidable (prB p s q) := by unfold prB; infer_instance
theorem k_product (p : Pa) (s : Su) (q : Pt) (h : prB p s q) : FOk P 125 [ePa p, eSu s, ePt q] (I (prV p s q)) := by
  have hL : raB (vL p) s q := by
    unfold prB paB ptR siR heR at h; unfold raB vL heR; simp only at h ⊢
    exact ⟨by omega, h.2.1, by unfold ptR siR heR; exact h.2.2⟩
  have hR : raB (vR p) s q := by
    unfold prB paB ptR siR heR at h; unfold raB vR heR; simp only at h ⊢
    exact ⟨by omega, h.2.1, by unfold ptR siR heR; exact h.2.2⟩
  have yv := x_vortices p (by simp only [h.1])
  have y1 := x_radial (vL p) s q (by simp only [hL])
  have y2 := x_radial (vR p) s q (by simp only [hR])
  simp only [vL, vR] at y1 y2
  obtain ⟨⟨a1, a2⟩, a3, a4⟩ := ra_bd hL
  obtain ⟨⟨b1, b2⟩, b3, b4⟩ := ra_bd hR
  have p1 := mul_bd (a := rnV (vL p) s q) (b := rdV (vR p) s q) (A := 41000000000) (B := 6000000) (by omega) (by omega)
  have p2 := mul_bd (a := rnV (vR p) s q) (b := rdV (vL p) s q) (A := 41000000000) (B := 6000000) (by omega) (by omega)
  have p3 := mul_bd (a := rdV (vL p) s q) (b := rdV (vR p) s q) (A := 6000000) (B := 6000000) (by omega) (by omega)
  have hD : 0 < prD p s q := Int.mul_pos (by omega) (by omega)
  have w1 : IntKind.wrap .i64 (rnV (vL p) s q * rdV (vR p) s q) = rnV (vL p) s q * rdV (vR p) s q := wrap64 (by omega) (by omega)
  have w2 : IntKind.wrap .i64 (rnV (vR p) s q * rdV (vL p) s q) = rnV (vR p) s q * rdV (vL p) s q := wrap64 (by omega) (by omega)
  have w3 : IntKind.wrap .i64 (rnV (vL p) s q * rdV (vR p) s q + rnV (vR p) s q * rdV (vL p) s q) = prN p s q := wrap64 (by omega) (by omega)
  have w4 : IntKind.wrap .i64 (rdV (vL p) s q * rdV (vR p) s q) = prD p s q := wrap64 (by omega) (by omega)
  have hq : (prN p s q).natAbs / (prD p s q).natAbs ≤ (prN p s q).natAbs := Nat.div_le_self _ _
  have hq2 : ((prN p s q).tdiv (prD p s q)).natAbs = (prN p s q).natAbs / (prD p s q).natAbs := Int.natAbs_tdiv _ _
  have hN : -600000000000000000 ≤ prN p s q ∧ prN p s q ≤ 600000000000000000 := by unfold prN; omega
  have w5 : IntKind.wrap .i64 ((prN p s q).tdiv (prD p s q)) = (prN p s q).tdiv (prD p s q) := wrap64 (by omega) (by omega)
  have w6 : IntKind.wrap .i64 ((prN p s q).tdiv (prD p s q) - 1) = (prN p s q).tdiv (prD p s q) - 1 := wrap64 (by omega) (by omega)
  have d0 : (prD p s q = 0) = False := eq_false (by omega)
  simp only [vL, vR] at w1 w2 w3 w4
  by_cases hm0 : (prN p s q).tmod (prD p s q) < 0
  · have hm1 := eq_true hm0
    rw [prV, if_pos hm0]
    refine c125.fok rfl (Cor.run (addC_good g_radial (addC_good g_vortices (noC_good _))) (noHx_good _) hm ?_)
    simp +contextual -implicitDefEqProofs (maxSteps := 2000000) only [bg_eq, a125, ro_32, yv, y1, y2, w1, w2, w3, w4, w5, w6, d0, hm1, ruB, rh_no, Int.reduceLT, Int.reduceLE, Int.reduceAdd, Int.reduceSub, Int.reduceMul, Int.reduceNeg, Int.reduceToNat, Int.reduceEq, Int.reduceNe, Int.reduceTDiv, Int.reduceTMod, implies_true, putL, appN, appX, appC, Eng.Fi, reduceCtorEq, exists_eq_left', exists_eq_left, if_true, if_false, List.replicate, Nat.reduceAdd, Nat.reduceSub, Nat.reduceMul, Nat.reduceLeDiff, Nat.reduceLT, Nat.reduceEqDiff]
  · have hm1 := eq_false hm0
    rw [prV, if_neg hm0]
    refine c125.fok rfl (Cor.run (addC_good g_radial (addC_good g_vortices (noC_good _))) (noHx_good _) hm ?_)
    simp +contextual -implicitDefEqProofs (maxSteps := 2000000) only [bg_eq, a125, ro_32, yv, y1, y2, w1, w2, w3, w4, w5, w6, d0, hm1, ruB, rh_no, Int.reduceLT, Int.reduceLE, Int.reduceAdd, Int.reduceSub, Int.reduceMul, Int.reduceNeg, Int.reduceToNat, Int.reduceEq, Int.reduceNe, Int.reduceTDiv, Int.reduceTMod, implies_true, putL, appN, appX, appC, Eng.Fi, reduceCtorEq, exists_eq_left', exists_eq_left, if_true, if_false, List.replicate, Nat.reduceAdd, Nat.reduceSub, Nat.reduceMul, Nat.reduceLeDiff, Nat.reduceLT, Nat.reduceEqDiff]
def cf_product : List AV → Option AV
  | [.agg [.int .i64 p_y, .int .i64 p_z, .int .i64 p_h, .int .i64 p_s], .agg [.int .i64 s_y, .int .i64 s_z, .int .i64 s_c], .agg [.int .i64 q_y, .int .i64 q_z]] => if prB (⟨p_y, p_z, p_h, p_s⟩ : Pa) (⟨s_y, s_z, s_c⟩ : Su) (⟨q_y, q_z⟩ : Pt) then some (I (prV (⟨p_y, p_z, p_h, p_s⟩ : Pa) (⟨s_y, s_z, s_c⟩ : Su) (⟨q_y, q_z⟩ : Pt))) else none
  | _ => none
theorem g_product : Fn P 125 cf_product := fun args v hh => by
  unfold cf_product at hh; split at hh
  · split at hh
    · rename_i hc; have hk := Option.some.inj hh; subst hk; exact k_product ⟨_, _, _, _⟩ ⟨_, _, _⟩ ⟨_, _⟩ hc
    · cases hh
  · cases hh
theorem x_product (p : Pa) (s : Su) (q : Pt) (hc : (prB p s q) = True) : cf_product [.agg [I p.y, I p.z, I p.h, I p.s], .agg [I s.y, I s.z, I s.c], .agg [I q.y, I q.z]] = some (I (prV p s q)) := by
  exact if_pos (by rw [hc]; trivial)
def raE (p : Pa) (s : Su) (q : Pt) : Int := firstE [paE p, suE s, ptE q]
def raV (p : Pa) (s : Su) (q : Pt) : AV := if raE p s q = 0 then .tup [I (prV p s q), I 0] else .tup [I 0, I (raE p s q)]
theorem raE_z {p : Pa} {s : Su} {q : Pt} (h : raE p s q = 0) : prB p s q := by
  have z := firstE_zero h
  have z1 := firstE_zero (z (paE p) (by simp))
  have z2 := firstE_zero (z (suE s) (by simp))
  have a1 := unl_zero (z1 (ptE ⟨p.y, p.z⟩) (by simp)) (by decide)
  have a2 := unl_zero (z1 (unl ((1 ≤ p.h ∧ p.h ≤ 100) ∧ (1 ≤ p.s ∧ p.s ≤ 10000)) 2) (by simp)) (by decide)
  have a3 := unl_zero (z2 (ptE ⟨s.y, s.z⟩) (by simp)) (by decide)
  have a4 := unl_zero (z2 (unl (1 ≤ s.c ∧ s.c ≤ 10000) 2) (by simp)) (by decide)
  have a5 := unl_zero (z (ptE q) (by simp)) (by decide)
  exact ⟨⟨⟨a1, by omega⟩, by omega⟩, ⟨a3, a4⟩, a5⟩
theorem k_RadialAt (p : Pa) (s : Su) (q : Pt) : FOk P 60 [ePa p, eSu s, ePt q] (raV p s q) := by
  by_cases h0 : raE p s q = 0
  · have y := x_product p s q (by simp only [raE_z h0])
    rw [raV, if_pos h0]
    refine c60.fok rfl (Cor.run (addC_good g_product (addC_good g_first (addC_good g_pointErr (addC_good g_setupErr (addC_good g_CheckPair (noC_good _)))))) (noHx_good _) hm ?_)
    have h1 := h0
    unfold raE at h1
    simp +contextual -implicitDefEqProofs (maxSteps := 2000000) only [bg_eq, a60, x_CheckPair, x_setupErr, x_pointErr, x_first, y_first, y, h1, not_true_eq_false, ruB, rh_no, Int.reduceLT, Int.reduceLE, Int.reduceAdd, Int.reduceSub, Int.reduceMul, Int.reduceNeg, Int.reduceToNat, Int.reduceEq, Int.reduceNe, Int.reduceTDiv, Int.reduceTMod, implies_true, putL, appN, appX, appC, Eng.Fi, reduceCtorEq, exists_eq_left', exists_eq_left, if_true, if_false, List.replicate, Nat.reduceAdd, Nat.reduceSub, Nat.reduceMul, Nat.reduceLeDiff, Nat.reduceLT, Nat.reduceEqDiff]
  · rw [raV, if_neg h0]
    refine c60.fok rfl (Cor.run (addC_good g_product (addC_good g_first (addC_good g_pointErr (addC_good g_setupErr (addC_good g_CheckPair (noC_good _)))))) (noHx_good _) hm ?_)
    unfold raE at h0 ⊢
    simp +contextual -implicitDefEqProofs (maxSteps := 2000000) only [bg_eq, a60, x_CheckPair, x_setupErr, x_pointErr, x_first, y_first, h0, not_false_eq_true, ruB, rh_no, Int.reduceLT, Int.reduceLE, Int.reduceAdd, Int.reduceSub, Int.reduceMul, Int.reduceNeg, Int.reduceToNat, Int.reduceEq, Int.reduceNe, Int.reduceTDiv, Int.reduceTMod, implies_true, putL, appN, appX, appC, Eng.Fi, reduceCtorEq, exists_eq_left', exists_eq_left, if_true, if_false, List.replicate, Nat.reduceAdd, Nat.reduceSub, Nat.reduceMul, Nat.reduceLeDiff, Nat.reduceLT, Nat.reduceEqDiff]
def cf_RadialAt : List AV → Option AV
  | [.agg [.int .i64 p_y, .int .i64 p_z, .int .i64 p_h, .int .i64 p_s], .agg [.int .i64 s_y, .int .i64 s_z, .int .i64 s_c], .agg [.int .i64 q_y, .int .i64 q_z]] => some (raV (⟨p_y, p_z, p_h, p_s⟩ : Pa) (⟨s_y, s_z, s_c⟩ : Su) (⟨q_y, q_z⟩ : Pt))
  | _ => none
theorem g_RadialAt : Fn P 60 cf_RadialAt := fun args v hh => by
  unfold cf_RadialAt at hh; split at hh
  · have hk := Option.some.inj hh; subst hk; exact k_RadialAt ⟨_, _, _, _⟩ ⟨_, _, _⟩ ⟨_, _⟩
  · cases hh
theorem x_RadialAt (p : Pa) (s : Su) (q : Pt) : cf_RadialAt [.agg [I p.y, I p.z, I p.h, I p.s], .agg [I s.y, I s.z, I s.c], .agg [I q.y, I q.z]] = some (raV p s q) := by
  rfl
end Wa
