import Derived.Test.YtabkbhpeeefmgaaEngS9
import Derived.Test.YtabkbhpeeefmgaaW924
open Go Go.Proofs Eng
set_option maxRecDepth 100000
set_option linter.unusedSimpArgs false
set_option linter.unusedVariables false
def a4 : AC := .seq (.ops false [] [⟨some 4, .p (.mov), [.c (.bool false)], none⟩]) (.seq (.seq (.ops false [] [⟨some 19, .call 13, [], none⟩, ⟨some 20, .p (.notB), [.t 19], none⟩]) (.cond (.t 20) (.seq (.ops false [] [⟨some 4, .p (.mov), [.c (.bool false)], none⟩]) (.ret)) (.skip))) (.seq (.seq (.ops false [] [⟨some 21, .p (.mov), [.t 0], none⟩, ⟨some 22, .call 14, [.t 21], none⟩, ⟨some 23, .p (.notB), [.t 22], none⟩, ⟨some 24, .p (.mov), [.t 23], none⟩, ⟨some 25, .p (.mov), [.t 0], some (24, false)⟩, ⟨some 26, .p (.mov), [.t 1], some (24, false)⟩, ⟨some 27, .call 17, [.t 25, .t 26], some (24, false)⟩, ⟨some 28, .p (.binI .neq), [.t 27, .c (.int .i64 0)], some (24, false)⟩, ⟨some 29, .p (.pick), [.t 24, .c (.bool true), .t 28], none⟩]) (.cond (.t 29) (.seq (.ops false [] [⟨some 4, .p (.mov), [.c (.bool true)], none⟩]) (.ret)) (.skip))) (.seq (.ops false [] [⟨some 31, .p (.mov), [.t 0], none⟩, ⟨some 32, .call 16, [.t 31], none⟩, ⟨some 33, .p (.mov), [.t 1], none⟩, ⟨some 34, .call 15, [.t 32, .t 33], none⟩, ⟨some 30, .p (.mov), [.t 34], none⟩, ⟨some 35, .p (.ext 0), [.t 30], none⟩, ⟨some 36, .p (.ext 1), [.t 30], none⟩, ⟨some 5, .p (.mov), [.t 35], none⟩, ⟨some 6, .p (.mov), [.t 36], none⟩]) (.seq (.seq (.ops false [] [⟨some 37, .p (.mov), [.t 6], none⟩, ⟨some 38, .p (.binI .neq), [.t 37, .c (.int .i64 0)], none⟩]) (.cond (.t 38) (.seq (.ops false [] [⟨some 4, .p (.mov), [.c (.bool false)], none⟩]) (.ret)) (.skip))) (.seq (.ops false [] [⟨some 7, .p (.mov), [.c (.int .i64 0)], none⟩, ⟨some 8, .p (.mov), [.c (.int .i64 0)], none⟩]) (.seq (.seq (.ops false [] [⟨some 9, .p (.mov), [.c (.int .i64 0)], none⟩]) (.block 0 (.loop (.seq (.seq (.ops false [] [⟨some 39, .p (.mov), [.t 9], none⟩, ⟨some 40, .p (.mov), [.t 0], none⟩, ⟨some 41, .p (.lenS), [.t 40], none⟩, ⟨some 42, .p (.binI .lss), [.t 39, .t 41], none⟩]) (.cond (.t 42) (.skip) (.exit 0))) (.seq (.block 1 (.ops false [] [⟨some 45, .p (.mov), [.t 8], none⟩, ⟨some 46, .p (.mov), [.t 0], none⟩, ⟨some 47, .p (.mov), [.t 9], none⟩, ⟨some 48, .p (.iaddrS 1), [.t 46, .t 47], none⟩, ⟨some 49, .load 1 false, [.t 48], none⟩, ⟨some 50, .p (.lenS), [.t 49], none⟩, ⟨some 51, .p (.binI .add), [.t 45, .t 50], none⟩, ⟨some 8, .p (.mov), [.t 51], none⟩])) (.ops false [] [⟨some 43, .p (.mov), [.t 9], none⟩, ⟨some 44, .p (.binI .add), [.t 43, .c (.int .i64 1)], none⟩, ⟨some 9, .p (.mov), [.t 44], none⟩])))))) (.seq (.ops false [] [⟨some 10, .p (.mov), [.c (.nilslice)], none⟩]) (.seq (.seq (.ops false [] [⟨some 11, .p (.mov), [.c (.int .i64 0)], none⟩]) (.block 2 (.loop (.seq (.seq (.ops false [] [⟨some 52, .p (.mov), [.t 11], none⟩, ⟨some 53, .p (.mov), [.t 5], none⟩, ⟨some 54, .p (.lenS), [.t 53], none⟩, ⟨some 55, .p (.binI .lss), [.t 52, .t 54], none⟩]) (.cond (.t 55) (.skip) (.exit 2))) (.seq (.block 3 (.seq (.seq (.ops false [] [⟨some 58, .p (.mov), [.t 5], none⟩, ⟨some 59, .p (.mov), [.t 11], none⟩, ⟨some 60, .p (.iaddrS 1), [.t 58, .t 59], none⟩, ⟨some 61, .load 1 false, [.t 60], none⟩, ⟨some 62, .p (.lenS), [.t 61], none⟩, ⟨some 63, .p (.binI .eql), [.t 62, .c (.int .i64 0)], none⟩, ⟨some 64, .p (.mov), [.t 63], none⟩, ⟨some 65, .p (.mov), [.t 5], some (64, false)⟩, ⟨some 66, .p (.mov), [.t 11], some (64, false)⟩, ⟨some 67, .p (.iaddrS 1), [.t 65, .t 66], some (64, false)⟩, ⟨some 68, .load 1 false, [.t 67], some (64, false)⟩, ⟨some 69, .p (.lenS), [.t 68], some (64, false)⟩, ⟨some 70, .p (.mov), [.t 0], some (64, false)⟩, ⟨some 71, .p (.lenS), [.t 70], some (64, false)⟩, ⟨some 72, .p (.binI .gtr), [.t 69, .t 71], some (64, false)⟩, ⟨some 73, .p (.pick), [.t 64, .c (.bool true), .t 72], none⟩]) (.cond (.t 73) (.seq (.ops false [] [⟨some 4, .p (.mov), [.c (.bool false)], none⟩]) (.ret)) (.skip))) (.seq (.ops false [] [⟨some 12, .p (.mov), [.c (.int .i64 0)], none⟩]) (.block 4 (.loop (.seq (.seq (.ops false [] [⟨some 74, .p (.mov), [.t 12], none⟩, ⟨some 75, .p (.mov), [.t 5], none⟩, ⟨some 76, .p (.mov), [.t 11], none⟩, ⟨some 77, .p (.iaddrS 1), [.t 75, .t 76], none⟩, ⟨some 78, .load 1 false, [.t 77], none⟩, ⟨some 79, .p (.lenS), [.t 78], none⟩, ⟨some 80, .p (.binI .lss), [.t 74, .t 79], none⟩]) (.cond (.t 80) (.skip) (.exit 4))) (.seq (.block 5 (.seq (.ops false [] [⟨some 83, .p (.mov), [.t 5], none⟩, ⟨some 84, .p (.mov), [.t 11], none⟩, ⟨some 85, .p (.iaddrS 1), [.t 83, .t 84], none⟩, ⟨some 86, .load 1 false, [.t 85], none⟩, ⟨some 87, .p (.mov), [.t 12], none⟩, ⟨some 88, .p (.iaddrS 2), [.t 86, .t 87], none⟩, ⟨some 89, .load 2 true, [.t 88], none⟩, ⟨some 13, .alloc 36 1 [.int .i64 0, .int .i64 0], [], none⟩, ⟨none, .store 2 true, [.t 13, .t 89], none⟩]) (.seq (.seq (.ops true [] [⟨some 90, .p (.iaddrA 2 1), [.t 13, .c (.int .i64 0)], none⟩, ⟨some 91, .load 1 false, [.t 90], none⟩, ⟨some 92, .p (.mov), [.t 0], none⟩, ⟨some 93, .p (.lenS), [.t 92], none⟩, ⟨some 94, .p (.binI .sub), [.t 93, .c (.int .i64 1)], none⟩, ⟨some 95, .call 20, [.t 91, .c (.int .i64 0), .t 94], none⟩, ⟨some 96, .p (.notB), [.t 95], none⟩, ⟨some 97, .p (.mov), [.t 96], none⟩, ⟨some 98, .p (.iaddrA 2 1), [.t 13, .c (.int .i64 1)], some (97, false)⟩, ⟨some 99, .load 1 false, [.t 98], some (97, false)⟩, ⟨some 100, .p (.mov), [.t 0], some (97, false)⟩, ⟨some 101, .p (.iaddrA 2 1), [.t 13, .c (.int .i64 0)], some (97, false)⟩, ⟨some 102, .load 1 false, [.t 101], some (97, false)⟩, ⟨some 103, .p (.iaddrS 1), [.t 100, .t 102], some (97, false)⟩, ⟨some 104, .load 1 false, [.t 103], some (97, false)⟩, ⟨some 105, .p (.lenS), [.t 104], some (97, false)⟩, ⟨some 106, .p (.binI .sub), [.t 105, .c (.int .i64 1)], some (97, false)⟩, ⟨some 107, .call 20, [.t 99, .c (.int .i64 0), .t 106], some (97, false)⟩, ⟨some 108, .p (.notB), [.t 107], some (97, false)⟩, ⟨some 109, .p (.pick), [.t 97, .c (.bool true), .t 108], none⟩, ⟨some 110, .p (.mov), [.t 109], none⟩, ⟨some 111, .p (.mov), [.t 12], some (110, false)⟩, ⟨some 112, .p (.binI .gtr), [.t 111, .c (.int .i64 0)], some (110, false)⟩, ⟨some 113, .p (.mov), [.t 112], some (110, false)⟩, ⟨some 114, .p (.iaddrA 2 1), [.t 13, .c (.int .i64 0)], some (113, true)⟩, ⟨some 115, .load 1 false, [.t 114], some (113, true)⟩, ⟨some 116, .p (.mov), [.t 5], some (113, true)⟩, ⟨some 117, .p (.mov), [.t 11], some (113, true)⟩, ⟨some 118, .p (.iaddrS 1), [.t 116, .t 117], some (113, true)⟩, ⟨some 119, .load 1 false, [.t 118], some (113, true)⟩, ⟨some 120, .p (.mov), [.t 12], some (113, true)⟩, ⟨some 121, .p (.binI .sub), [.t 120, .c (.int .i64 1)], some (113, true)⟩, ⟨some 122, .p (.iaddrS 2), [.t 119, .t 121], some (113, true)⟩, ⟨some 123, .p (.iaddrA 2 1), [.t 122, .c (.int .i64 0)], some (113, true)⟩, ⟨some 124, .load 1 false, [.t 123], some (113, true)⟩, ⟨some 125, .p (.binI .add), [.t 124, .c (.int .i64 1)], some (113, true)⟩, ⟨some 126, .p (.binI .neq), [.t 115, .t 125], some (113, true)⟩, ⟨some 127, .p (.pick), [.t 113, .t 126, .c (.bool false)], some (110, false)⟩, ⟨some 128, .p (.pick), [.t 110, .c (.bool true), .t 127], none⟩]) (.cond (.t 128) (.seq (.ops false [] [⟨some 4, .p (.mov), [.c (.bool false)], none⟩]) (.ret)) (.skip))) (.seq (.seq (.ops false [] [⟨some 14, .p (.mov), [.c (.int .i64 0)], none⟩]) (.block 6 (.loop (.seq (.seq (.ops false [] [⟨some 129, .p (.mov), [.t 14], none⟩, ⟨some 130, .p (.mov), [.t 10], none⟩, ⟨some 131, .p (.lenS), [.t 130], none⟩, ⟨some 132, .p (.binI .lss), [.t 129, .t 131], none⟩]) (.cond (.t 132) (.skip) (.exit 6))) (.seq (.block 7 (.seq (.ops true [] [⟨some 135, .p (.mov), [.t 10], none⟩, ⟨some 136, .p (.mov), [.t 14], none⟩, ⟨some 137, .p (.iaddrS 2), [.t 135, .t 136], none⟩, ⟨some 138, .load 2 true, [.t 137], none⟩, ⟨some 139, .load 2 true, [.t 13], none⟩, ⟨some 140, .p (.eqa false [.i, .i]), [.t 138, .t 139], none⟩]) (.cond (.t 140) (.seq (.ops false [] [⟨some 4, .p (.mov), [.c (.bool false)], none⟩]) (.ret)) (.skip)))) (.ops false [] [⟨some 133, .p (.mov), [.t 14], none⟩, ⟨some 134, .p (.binI .add), [.t 133, .c (.int .i64 1)], none⟩, ⟨some 14, .p (.mov), [.t 134], none⟩])))))) (.seq (.ops false [] [⟨some 141, .p (.mov), [.t 10], none⟩, ⟨some 142, .load 2 true, [.t 13], none⟩, ⟨some 143, .fbs 2, [.t 142], none⟩, ⟨some 144, .app 36 2 16, [.t 141, .t 143], none⟩, ⟨some 145, .p (.mov), [.t 7], none⟩, ⟨some 146, .p (.binI .add), [.t 145, .c (.int .i64 1)], none⟩, ⟨some 10, .p (.mov), [.t 144], none⟩, ⟨some 7, .p (.mov), [.t 146], none⟩]) (.seq (.seq (.ops false [] [⟨some 147, .p (.mov), [.t 12], none⟩, ⟨some 148, .p (.binI .eql), [.t 147, .c (.int .i64 0)], none⟩]) (.cond (.t 148) (.exit 5) (.skip))) (.seq (.ops false [] [⟨some 149, .p (.mov), [.t 5], none⟩, ⟨some 150, .p (.mov), [.t 11], none⟩, ⟨some 151, .p (.iaddrS 1), [.t 149, .t 150], none⟩, ⟨some 152, .load 1 false, [.t 151], none⟩, ⟨some 153, .p (.mov), [.t 12], none⟩, ⟨some 154, .p (.binI .sub), [.t 153, .c (.int .i64 1)], none⟩, ⟨some 155, .p (.iaddrS 2), [.t 152, .t 154], none⟩, ⟨some 156, .load 2 true, [.t 155], none⟩, ⟨some 15, .alloc 36 1 [.int .i64 0, .int .i64 0], [], none⟩, ⟨none, .store 2 true, [.t 15, .t 156], none⟩]) (.seq (.ops true [] [⟨some 158, .p (.mov), [.t 0], none⟩, ⟨some 159, .p (.iaddrA 2 1), [.t 15, .c (.int .i64 0)], none⟩, ⟨some 160, .load 1 false, [.t 159], none⟩, ⟨some 161, .p (.iaddrS 1), [.t 158, .t 160], none⟩, ⟨some 162, .load 1 false, [.t 161], none⟩, ⟨some 163, .call 22, [.t 162], none⟩, ⟨some 164, .p (.mov), [.t 0], none⟩, ⟨some 165, .p (.iaddrA 2 1), [.t 13, .c (.int .i64 0)], none⟩, ⟨some 166, .load 1 false, [.t 165], none⟩, ⟨some 167, .p (.iaddrS 1), [.t 164, .t 166], none⟩, ⟨some 168, .load 1 false, [.t 167], none⟩, ⟨some 169, .call 22, [.t 168], none⟩, ⟨some 170, .p (.mov), [.t 1], none⟩, ⟨some 171, .call 21, [.t 163, .t 169, .t 170], none⟩, ⟨some 157, .p (.mov), [.t 171], none⟩, ⟨some 172, .p (.ext 0), [.t 157], none⟩, ⟨some 173, .p (.ext 1), [.t 157], none⟩, ⟨some 16, .p (.mov), [.t 172], none⟩, ⟨some 17, .p (.mov), [.t 173], none⟩]) (.seq (.ops true [] [⟨some 174, .p (.mov), [.t 0], none⟩, ⟨some 175, .p (.iaddrA 2 1), [.t 15, .c (.int .i64 0)], none⟩, ⟨some 176, .load 1 false, [.t 175], none⟩, ⟨some 177, .p (.iaddrS 1), [.t 174, .t 176], none⟩, ⟨some 178, .load 1 false, [.t 177], none⟩, ⟨some 179, .p (.iaddrA 2 1), [.t 15, .c (.int .i64 1)], none⟩, ⟨some 180, .load 1 false, [.t 179], none⟩, ⟨some 181, .p (.iaddrS 3), [.t 178, .t 180], none⟩, ⟨some 182, .load 3 true, [.t 181], none⟩, ⟨some 183, .p (.mov), [.t 0], none⟩, ⟨some 184, .p (.iaddrA 2 1), [.t 13, .c (.int .i64 0)], none⟩, ⟨some 185, .load 1 false, [.t 184], none⟩, ⟨some 186, .p (.iaddrS 1), [.t 183, .t 185], none⟩, ⟨some 187, .load 1 false, [.t 186], none⟩, ⟨some 188, .p (.iaddrA 2 1), [.t 13, .c (.int .i64 1)], none⟩, ⟨some 189, .load 1 false, [.t 188], none⟩, ⟨some 190, .p (.iaddrS 3), [.t 187, .t 189], none⟩, ⟨some 191, .load 3 true, [.t 190], none⟩, ⟨some 192, .call 23, [.t 182, .t 191], none⟩, ⟨some 18, .p (.mov), [.t 192], none⟩]) (.seq (.ops true [] [⟨some 193, .p (.mov), [.t 17], none⟩, ⟨some 194, .p (.binI .neq), [.t 193, .c (.int .i64 0)], none⟩, ⟨some 195, .p (.mov), [.t 194], none⟩, ⟨some 196, .p (.mov), [.t 16], some (195, false)⟩, ⟨some 197, .p (.lenS), [.t 196], some (195, false)⟩, ⟨some 198, .p (.mov), [.t 0], some (195, false)⟩, ⟨some 199, .p (.iaddrA 2 1), [.t 15, .c (.int .i64 0)], some (195, false)⟩, ⟨some 200, .load 1 false, [.t 199], some (195, false)⟩, ⟨some 201, .p (.iaddrS 1), [.t 198, .t 200], some (195, false)⟩, ⟨some 202, .load 1 false, [.t 201], some (195, false)⟩, ⟨some 203, .p (.lenS), [.t 202], some (195, false)⟩, ⟨some 204, .p (.binI .neq), [.t 197, .t 203], some (195, false)⟩, ⟨some 205, .p (.pick), [.t 195, .c (.bool true), .t 204], none⟩, ⟨some 206, .p (.mov), [.t 205], none⟩, ⟨some 207, .p (.mov), [.t 16], some (206, false)⟩, ⟨some 208, .p (.iaddrA 2 1), [.t 15, .c (.int .i64 1)], some (206, false)⟩, ⟨some 209, .load 1 false, [.t 208], some (206, false)⟩, ⟨some 210, .p (.iaddrS 1), [.t 207, .t 209], some (206, false)⟩, ⟨some 211, .load 1 false, [.t 210], some (206, false)⟩, ⟨some 212, .p (.iaddrA 2 1), [.t 13, .c (.int .i64 1)], some (206, false)⟩, ⟨some 213, .load 1 false, [.t 212], some (206, false)⟩, ⟨some 214, .p (.binI .neq), [.t 211, .t 213], some (206, false)⟩, ⟨some 215, .p (.pick), [.t 206, .c (.bool true), .t 214], none⟩, ⟨some 216, .p (.mov), [.t 215], none⟩, ⟨some 217, .p (.mov), [.t 18], some (216, false)⟩, ⟨some 218, .p (.mov), [.t 1], some (216, false)⟩, ⟨some 219, .p (.binI .mul), [.c (.int .i64 2), .t 218], some (216, false)⟩, ⟨some 220, .p (.binI .gtr), [.t 217, .t 219], some (216, false)⟩, ⟨some 221, .p (.pick), [.t 216, .c (.bool true), .t 220], none⟩]) (.cond (.t 221) (.seq (.ops false [] [⟨some 4, .p (.mov), [.c (.bool false)], none⟩]) (.ret)) (.skip)))))))))))) (.ops false [] [⟨some 81, .p (.mov), [.t 12], none⟩, ⟨some 82, .p (.binI .add), [.t 81, .c (.int .i64 1)], none⟩, ⟨some 12, .p (.mov), [.t 82], none⟩])))))))) (.ops false [] [⟨some 56, .p (.mov), [.t 11], none⟩, ⟨some 57, .p (.binI .add), [.t 56, .c (.int .i64 1)], none⟩, ⟨some 11, .p (.mov), [.t 57], none⟩])))))) (.seq (.ops false [] [⟨some 222, .p (.mov), [.t 7], none⟩, ⟨some 223, .p (.mov), [.t 8], none⟩, ⟨some 224, .p (.binI .eql), [.t 222, .t 223], none⟩, ⟨some 4, .p (.mov), [.t 224], none⟩]) (.ret))))))))))
theorem c4 : FnC Try.prog 4 225 a4 [.tmp 4] := ⟨Try.call4, _, _, Try.func4, rfl, by kernel_rfl, by kernel_rfl, rfl⟩
namespace Wa
def S_fa (l : List Vs) (n : Int) (T : List Tr) (k : Nat) : AState := ⟨[.vs (l.map eVs), I n, .any, .any, .any, .vs (T.map eTr), .any, I 0, I (cnt l k), I k, .any, .any, .any, .any, .any, .any, .any, .any, .any, .any, .any, .any, .any, .any, .any, .any, .any, .any, .any, .any, .any, .any, .any, .any, .any, .any, .any, .any, .any, .any, .any, .any, .any, .any, .any, .any, .any, .any, .any, .any, .any, .any, .any, .any, .any, .any, .any, .any, .any, .any, .any, .any, .any, .any, .any, .any, .any, .any, .any, .any, .any, .any, .any, .any, .any, .any, .any, .any, .any, .any, .any, .any, .any, .any, .any, .any, .any, .any, .any, .any, .any, .any, .any, .any, .any, .any, .any, .any, .any, .any, .any, .any, .any, .any, .any, .any, .any, .any, .any, .any, .any, .any, .any, .any, .any, .any, .any, .any, .any, .any, .any, .any, .any, .any, .any, .any, .any, .any, .any, .any, .any, .any, .any, .any, .any, .any, .any, .any, .any, .any, .any, .any, .any, .any, .any, .any, .any, .any, .any, .any, .any, .any, .any, .any, .any, .any, .any, .any, .any, .any, .any, .any, .any, .any, .any, .any, .any, .any, .any, .any, .any, .any, .any, .any, .any, .any, .any, .any, .any, .any, .any, .any, .any, .any, .any, .any, .any, .any, .any, .any, .any, .any, .any, .any, .any, .any, .any, .any, .any, .any, .any, .any, .any, .any, .any, .any, .any, .any, .any, .any, .any, .any, .any, .any, .any, .any, .any, .any, .any, .any, .any, .any, .any, .any, .any], [], 0⟩
def S_fz (l : List Vs) (n : Int) (T : List Tr) : AState := ⟨[.vs (l.map eVs), I n, .any, .any, .any, .vs (T.map eTr), .any, I 0, I (cnt l l.length), .any, .any, .any, .any, .any, .any, .any, .any, .any, .any, .any, .any, .any, .any, .any, .any, .any, .any, .any, .any, .any, .any, .any, .any, .any, .any, .any, .any, .any, .any, .any, .any, .any, .any, .any, .any, .any, .any, .any, .any, .any, .any, .any, .any, .any, .any, .any, .any, .any, .any, .any, .any, .any, .any, .any, .any, .any, .any, .any, .any, .any, .any, .any, .any, .any, .any, .any, .any, .any, .any, .any, .any, .any, .any, .any, .any, .any, .any, .any, .any, .any, .any, .any, .any, .any, .any, .any, .any, .any, .any, .any, .any, .any, .any, .any, .any, .any, .any, .any, .any, .any, .any, .any, .any, .any, .any, .any, .any, .any, .any, .any, .any, .any, .any, .any, .any, .any, .any, .any, .any, .any, .any, .any, .any, .any, .any, .any, .any, .any, .any, .any, .any, .any, .any, .any, .any, .any, .any, .any, .any, .any, .any, .any, .any, .any, .any, .any, .any, .any, .any, .any, .any, .any, .any, .any, .any, .any, .any, .any, .any, .any, .any, .any, .any, .any, .any, .any, .any, .any, .any, .any, .any, .any, .any, .any, .any, .any, .any, .any, .any, .any, .any, .any, .any, .any, .any, .any, .any, .any, .any, .any, .any, .any, .any, .any, .any, .any, .any, .any, .any, .any, .any, .any, .any, .any, .any, .any, .any, .any, .any, .any, .any, .any, .any, .any, .any], [], 0⟩
def S_fb (l : List Vs) (n : Int) (T : List Tr) (seen : Tr) (i : Nat) : AState := ⟨[.vs (l.map eVs), I n, .any, .any, .any, .vs (T.map eTr), .any, I seen.length, I (cnt l l.length), .any, gA 0 2 (seen.map eP2), I i, .any, .any, .any, .any, .any, .any, .any, .any, .any, .any, .any, .any, .any, .any, .any, .any, .any, .any, .any, .any, .any, .any, .any, .any, .any, .any, .any, .any, .any, .any, .any, .any, .any, .any, .any, .any, .any, .any, .any, .any, .any, .any, .any, .any, .any, .any, .any, .any, .any, .any, .any, .any, .any, .any, .any, .any, .any, .any, .any, .any, .any, .any, .any, .any, .any, .any, .any, .any, .any, .any, .any, .any, .any, .any, .any, .any, .any, .any, .any, .any, .any, .any, .any, .any, .any, .any, .any, .any, .any, .any, .any, .any, .any, .any, .any, .any, .any, .any, .any, .any, .any, .any, .any, .any, .any, .any, .any, .any, .any, .any, .any, .any, .any, .any, .any, .any, .any, .any, .any, .any, .any, .any, .any, .any, .any, .any, .any, .any, .any, .any, .any, .any, .any, .any, .any, .any, .any, .any, .any, .any, .any, .any, .any, .any, .any, .any, .any, .any, .any, .any, .any, .any, .any, .any, .any, .any, .any, .any, .any, .any, .any, .any, .any, .any, .any, .any, .any, .any, .any, .any, .any, .any, .any, .any, .any, .any, .any, .any, .any, .any, .any, .any, .any, .any, .any, .any, .any, .any, .any, .any, .any, .any, .any, .any, .any, .any, .any, .any, .any, .any, .any, .any, .any, .any, .any, .any, .any, .any, .any, .any, .any, .any, .any], gH 0 36 2 (seen.map eP2), 1⟩
def S_fc (l : List Vs) (n : Int) (T : List Tr) (seen : Tr) (i k : Nat) : AState := ⟨[.vs (l.map eVs), I n, .any, .any, .any, .vs (T.map eTr), .any, I seen.length, I (cnt l l.length), .any, gA 0 2 (seen.map eP2), I i, I k, .any, .any, .any, .any, .any, .any, .any, .any, .any, .any, .any, .any, .any, .any, .any, .any, .any, .any, .any, .any, .any, .any, .any, .any, .any, .any, .any, .any, .any, .any, .any, .any, .any, .any, .any, .any, .any, .any, .any, .any, .any, .any, .any, .any, .any, .any, .any, .any, .any, .any, .any, .any, .any, .any, .any, .any, .any, .any, .any, .any, .any, .any, .any, .any, .any, .any, .any, .any, .any, .any, .any, .any, .any, .any, .any, .any, .any, .any, .any, .any, .any, .any, .any, .any, .any, .any, .any, .any, .any, .any, .any, .any, .any, .any, .any, .any, .any, .any, .any, .any, .any, .any, .any, .any, .any, .any, .any, .any, .any, .any, .any, .any, .any, .any, .any, .any, .any, .any, .any, .any, .any, .any, .any, .any, .any, .any, .any, .any, .any, .any, .any, .any, .any, .any, .any, .any, .any, .any, .any, .any, .any, .any, .any, .any, .any, .any, .any, .any, .any, .any, .any, .any, .any, .any, .any, .any, .any, .any, .any, .any, .any, .any, .any, .any, .any, .any, .any, .any, .any, .any, .any, .any, .any, .any, .any, .any, .any, .any, .any, .any, .any, .any, .any, .any, .any, .any, .any, .any, .any, .any, .any, .any, .any, .any, .any, .any, .any, .any, .any, .any, .any, .any, .any, .any, .any, .any, .any, .any, .any, .any, .any, .any], gH 0 36 2 (seen.map eP2), 1⟩
def S_fd (l : List Vs) (n : Int) (T : List Tr) (seen : Tr) (i k : Nat) (p : Int × Int) : AState := ⟨[.vs (l.map eVs), I n, .any, .any, .any, .vs (T.map eTr), .any, I seen.length, I (cnt l l.length), .any, gA 0 2 (seen.map eP2), I i, I k, .ptr 1 1 0 0, .any, .any, .any, .any, .any, .any, .any, .any, .any, .any, .any, .any, .any, .any, .any, .any, .any, .any, .any, .any, .any, .any, .any, .any, .any, .any, .any, .any, .any, .any, .any, .any, .any, .any, .any, .any, .any, .any, .any, .any, .any, .any, .any, .any, .any, .any, .any, .any, .any, .any, .any, .any, .any, .any, .any, .any, .any, .any, .any, .any, .any, .any, .any, .any, .any, .any, .any, .any, .any, .any, .any, .any, .any, .any, .any, .any, .any, .any, .any, .any, .any, .any, .any, .any, .any, .any, .any, .any, .any, .any, .any, .any, .any, .any, .any, .any, .any, .any, .any, .any, .any, .any, .any, .any, .any, .any, .any, .any, .any, .any, .any, .any, .any, .any, .any, .any, .any, .any, .any, .any, .any, .any, .any, .any, .any, .any, .any, .any, .any, .any, .any, .any, .any, .any, .any, .any, .any, .any, .any, .any, .any, .any, .any, .any, .any, .any, .any, .any, .any, .any, .any, .any, .any, .any, .any, .any, .any, .any, .any, .any, .any, .any, .any, .any, .any, .any, .any, .any, .any, .any, .any, .any, .any, .any, .any, .any, .any, .any, .any, .any, .any, .any, .any, .any, .any, .any, .any, .any, .any, .any, .any, .any, .any, .any, .any, .any, .any, .any, .any, .any, .any, .any, .any, .any, .any, .any, .any, .any, .any, .any, .any], ⟨1, 1, .rows 36 1 [I p.1, I p.2]⟩ :: gH 0 36 2 (seen.map eP2), 2⟩
def S_fe (l : List Vs) (n : Int) (T : List Tr) (seen : Tr) (i k : Nat) (p : Int × Int) (j : Nat) : AState := ⟨[.vs (l.map eVs), I n, .any, .any, .any, .vs (T.map eTr), .any, I seen.length, I (cnt l l.length), .any, gA 0 2 (seen.map eP2), I i, I k, .ptr 1 1 0 0, I j, .any, .any, .any, .any, .any, .any, .any, .any, .any, .any, .any, .any, .any, .any, .any, .any, .any, .any, .any, .any, .any, .any, .any, .any, .any, .any, .any, .any, .any, .any, .any, .any, .any, .any, .any, .any, .any, .any, .any, .any, .any, .any, .any, .any, .any, .any, .any, .any, .any, .any, .any, .any, .any, .any, .any, .any, .any, .any, .any, .any, .any, .any, .any, .any, .any, .any, .any, .any, .any, .any, .any, .any, .any, .any, .any, .any, .any, .any, .any, .any, .any, .any, .any, .any, .any, .any, .any, .any, .any, .any, .any, .any, .any, .any, .any, .any, .any, .any, .any, .any, .any, .any, .any, .any, .any, .any, .any, .any, .any, .any, .any, .any, .any, .any, .any, .any, .any, .any, .any, .any, .any, .any, .any, .any, .any, .any, .any, .any, .any, .any, .any, .any, .any, .any, .any, .any, .any, .any, .any, .any, .any, .any, .any, .any, .any, .any, .any, .any, .any, .any, .any, .any, .any, .any, .any, .any, .any, .any, .any, .any, .any, .any, .any, .any, .any, .any, .any, .any, .any, .any, .any, .any, .any, .any, .any, .any, .any, .any, .any, .any, .any, .any, .any, .any, .any, .any, .any, .any, .any, .any, .any, .any, .any, .any, .any, .any, .any, .any, .any, .any, .any, .any, .any, .any, .any, .any, .any, .any, .any, .any], ⟨1, 1, .rows 36 1 [I p.1, I p.2]⟩ :: gH 0 36 2 (seen.map eP2), 2⟩
def S_ff (l : List Vs) (n : Int) (T : List Tr) (seen : Tr) (i k : Nat) (p : Int × Int) : AState := ⟨[.vs (l.map eVs), I n, .any, .any, .any, .vs (T.map eTr), .any, I seen.length, I (cnt l l.length), .any, gA 0 2 (seen.map eP2), I i, I k, .ptr 1 1 0 0, .any, .any, .any, .any, .any, .any, .any, .any, .any, .any, .any, .any, .any, .any, .any, .any, .any, .any, .any, .any, .any, .any, .any, .any, .any, .any, .any, .any, .any, .any, .any, .any, .any, .any, .any, .any, .any, .any, .any, .any, .any, .any, .any, .any, .any, .any, .any, .any, .any, .any, .any, .any, .any, .any, .any, .any, .any, .any, .any, .any, .any, .any, .any, .any, .any, .any, .any, .any, .any, .any, .any, .any, .any, .any, .any, .any, .any, .any, .any, .any, .any, .any, .any, .any, .any, .any, .any, .any, .any, .any, .any, .any, .any, .any, .any, .any, .any, .any, .any, .any, .any, .any, .any, .any, .any, .any, .any, .any, .any, .any, .any, .any, .any, .any, .any, .any, .any, .any, .any, .any, .any, .any, .any, .any, .any, .any, .any, .any, .any, .any, .any, .any, .any, .any, .any, .any, .any, .any, .any, .any, .any, .any, .any, .any, .any, .any, .any, .any, .any, .any, .any, .any, .any, .any, .any, .any, .any, .any, .any, .any, .any, .any, .any, .any, .any, .any, .any, .any, .any, .any, .any, .any, .any, .any, .any, .any, .any, .any, .any, .any, .any, .any, .any, .any, .any, .any, .any, .any, .any, .any, .any, .any, .any, .any, .any, .any, .any, .any, .any, .any, .any, .any, .any, .any, .any, .any, .any, .any, .any, .any, .any], gH 0 36 2 (seen.map eP2) ++ [⟨1, 1, .rows 36 1 [I p.1, I p.2]⟩], 2⟩
theorem flat_take {α : Type} (T : List (List α)) {i : Nat} (h : i < T.length) : (T.take (i + 1)).flatten = (T.take i).flatten ++ T[i] := by
  rw [List.take_succ_eq_append_getElem h, List.flatten_append]; simp
theorem not_seen {T : List Tr} (hnd : T.flatten.Nodup) {i k : Nat} (hi : i < T.length) (hk : k < T[i].length) : ¬ T[i][k] ∈ (T.take i).flatten ++ T[i].take k := by
  have h1 : T = T.take i ++ T[i] :: T.drop (i + 1) := by
    rw [← List.drop_eq_getElem_cons hi, List.take_append_drop]
  have h2 : T[i] = T[i].take k ++ T[i][k] :: T[i].drop (k + 1) := by
    rw [← List.drop_eq_getElem_cons hk, List.take_append_drop]
  have h3 : T.flatten = ((T.take i).flatten ++ T[i].take k) ++ (T[i][k] :: (T[i].drop (k + 1) ++ (T.drop (i + 1)).flatten)) := by
    conv => lhs; rw [h1]
    rw [List.flatten_append, List.flatten_cons]
    have h4 : (T.take i).flatten ++ (T[i] ++ (T.drop (i + 1)).flatten) = (T.take i).flatten ++ ((T[i].take k ++ T[i][k] :: T[i].drop (k + 1)) ++ (T.drop (i + 1)).flatten) := congrArg (fun y => (T.take i).flatten ++ (y ++ (T.drop (i + 1)).flatten)) h2
    rw [h4]
    simp only [List.append_assoc, List.cons_append]
  rw [h3] at hnd
  intro hm
  exact (List.nodup_append.1 hnd).2.2 _ hm _ (by simp) rfl
theorem len_flat {α : Type} : ∀ (T : List (List α)), (∀ x ∈ T, x ≠ []) → T.length ≤ T.flatten.length
  | [], _ => Nat.le_refl _
  | x :: T, h => by
    have h1 := len_flat T fun y hy => h y (by simp [hy])
    have h2 := List.length_pos_iff.2 (h x (by simp))
    rw [List.flatten_cons, List.length_append, List.length_cons]
    omega
theorem cnt_bd {l : List Vs} {n : Int} (h0 : soE l n = 0) : ∀ k, k ≤ l.length → cnt l k ≤ 3 * k
  | 0, _ => Nat.le_refl _
  | k + 1, hk => by
    have h1 := cnt_bd h0 k (by omega)
    have h2 := (scE_z ((soE_z h0).2.1 l[k] (List.getElem_mem (by omega)))).1
    rw [cnt, List.getElem?_eq_getElem (show k < l.length by omega), Option.getD_some]
    omega
theorem gv_lt {l : List Vs} {a b : Nat} (h : b < ((l[a]?).getD []).length) : ∃ ha : a < l.length, b < l[a].length := by
  by_cases ha : a < l.length
  · rw [List.getElem?_eq_getElem ha, Option.getD_some] at h
    exact ⟨ha, h⟩
  · rw [List.getElem?_eq_none (by omega)] at h
    simp at h
set_option maxHeartbeats 2000000 in
theorem k_WakeFollowed (l : List Vs) (n : Int) (hl : l.length ≤ maxLen ∧ ∀ s ∈ l, s.length ≤ maxLen) : FOk P 4 [.vs (l.map eVs), I n] (.bool true) := by
  have y1 := x_scanned6 l hl
  by_cases hs : scV l = true
  · rw [hs] at y1
    obtain ⟨hl8, hs5⟩ := scV_z hs
    have y2 := x_rScansErr l n (by simp only [eq_iff_iff, iff_true]; omega)
    by_cases h0 : soE l n = 0
    · have h0' := eq_true h0
      have y3 := x_CopyScans l (by simp only [eq_iff_iff, iff_true]; exact ⟨by omega, fun s hs => by have := hs5 s hs; omega⟩)
      have y4 := x_TracksOf l n (by simp only [eq_iff_iff, iff_true]; omega)
      rw [toV, if_pos h0] at y4
      obtain ⟨hl6, hsc, hmi⟩ := soE_z h0
      have hT := tk_fT h0
      have hTl := fun x (hx : x ∈ tkV n l) => tr_len hT hx
      have hcb := cnt_bd h0
      generalize tkV n l = T at *
      have hct := hT.ct
      rw [Nat.add_zero] at hct
      have hcl := hcb l.length (Nat.le_refl _)
      refine c4.fok (y := YH P noHx) (by simp only [subs, sub1, free_Vs]) ?_
      rw [bg_eq, a4]
      refine Cor.seq (Cor.run (noC_good _) (noHx_good _) hm ?_)
      simp +contextual -implicitDefEqProofs (maxSteps := 2000000) only [eThen_normal, ruB, rh_no, Int.reduceLT, Int.reduceLE, Int.reduceAdd, Int.reduceSub, Int.reduceMul, Int.reduceNeg, Int.reduceToNat, Int.reduceEq, Int.reduceNe, Int.reduceTDiv, Int.reduceTMod, implies_true, putL, appN, appX, appC, Eng.Fi, reduceCtorEq, exists_eq_left', exists_eq_left, if_true, if_false, List.replicate, Nat.reduceAdd, Nat.reduceSub, Nat.reduceMul, Nat.reduceLeDiff, Nat.reduceLT, Nat.reduceEqDiff]
      refine Cor.seq (Cor.run (addC_good g_awake (noC_good _)) (noHx_good _) hm ?_)
      simp +contextual -implicitDefEqProofs (maxSteps := 2000000) only [x_awake, eThen_normal, ruB, rh_no, Int.reduceLT, Int.reduceLE, Int.reduceAdd, Int.reduceSub, Int.reduceMul, Int.reduceNeg, Int.reduceToNat, Int.reduceEq, Int.reduceNe, Int.reduceTDiv, Int.reduceTMod, implies_true, putL, appN, appX, appC, Eng.Fi, reduceCtorEq, exists_eq_left', exists_eq_left, if_true, if_false, List.replicate, Nat.reduceAdd, Nat.reduceSub, Nat.reduceMul, Nat.reduceLeDiff, Nat.reduceLT, Nat.reduceEqDiff]
      refine Cor.seq (Cor.run (addC_good g_rScansErr (addC_good g_scanned6 (noC_good _))) (noHx_good _) hm ?_)
      simp +contextual -implicitDefEqProofs (maxSteps := 2000000) only [y1, y2, h0', eThen_normal, not_true_eq_false, ruB, rh_no, Int.reduceLT, Int.reduceLE, Int.reduceAdd, Int.reduceSub, Int.reduceMul, Int.reduceNeg, Int.reduceToNat, Int.reduceEq, Int.reduceNe, Int.reduceTDiv, Int.reduceTMod, implies_true, putL, appN, appX, appC, Eng.Fi, reduceCtorEq, exists_eq_left', exists_eq_left, if_true, if_false, List.replicate, Nat.reduceAdd, Nat.reduceSub, Nat.reduceMul, Nat.reduceLeDiff, Nat.reduceLT, Nat.reduceEqDiff]
      refine Cor.seq (Cor.run (addC_good g_TracksOf (addC_good g_CopyScans (noC_good _))) (noHx_good _) hm ?_)
      simp +contextual -implicitDefEqProofs (maxSteps := 2000000) only [y3, y4, eThen_normal, ruB, rh_no, Int.reduceLT, Int.reduceLE, Int.reduceAdd, Int.reduceSub, Int.reduceMul, Int.reduceNeg, Int.reduceToNat, Int.reduceEq, Int.reduceNe, Int.reduceTDiv, Int.reduceTMod, implies_true, putL, appN, appX, appC, Eng.Fi, reduceCtorEq, exists_eq_left', exists_eq_left, if_true, if_false, List.replicate, Nat.reduceAdd, Nat.reduceSub, Nat.reduceMul, Nat.reduceLeDiff, Nat.reduceLT, Nat.reduceEqDiff]
      refine Cor.seq (Cor.run (noC_good _) (noHx_good _) hm ?_)
      simp +contextual -implicitDefEqProofs (maxSteps := 2000000) only [eThen_normal, not_true_eq_false, ruB, rh_no, Int.reduceLT, Int.reduceLE, Int.reduceAdd, Int.reduceSub, Int.reduceMul, Int.reduceNeg, Int.reduceToNat, Int.reduceEq, Int.reduceNe, Int.reduceTDiv, Int.reduceTMod, implies_true, putL, appN, appX, appC, Eng.Fi, reduceCtorEq, exists_eq_left', exists_eq_left, if_true, if_false, List.replicate, Nat.reduceAdd, Nat.reduceSub, Nat.reduceMul, Nat.reduceLeDiff, Nat.reduceLT, Nat.reduceEqDiff]
      refine Cor.seq (Cor.run (noC_good _) (noHx_good _) hm ?_)
      simp +contextual -implicitDefEqProofs (maxSteps := 2000000) only [eThen_normal, ruB, rh_no, Int.reduceLT, Int.reduceLE, Int.reduceAdd, Int.reduceSub, Int.reduceMul, Int.reduceNeg, Int.reduceToNat, Int.reduceEq, Int.reduceNe, Int.reduceTDiv, Int.reduceTMod, implies_true, putL, appN, appX, appC, Eng.Fi, reduceCtorEq, exists_eq_left', exists_eq_left, if_true, if_false, List.replicate, Nat.reduceAdd, Nat.reduceSub, Nat.reduceMul, Nat.reduceLeDiff, Nat.reduceLT, Nat.reduceEqDiff]
      refine Cor.seqW (s2 := S_fz l n T) ?_ ?_
      · refine Cor.run (noC_good _) (noHx_good _) hm ?_
        simp +contextual -implicitDefEqProofs (maxSteps := 2000000) only [Int.natCast_zero, ruB, rh_no, Int.reduceLT, Int.reduceLE, Int.reduceAdd, Int.reduceSub, Int.reduceMul, Int.reduceNeg, Int.reduceToNat, Int.reduceEq, Int.reduceNe, Int.reduceTDiv, Int.reduceTMod, implies_true, putL, appN, appX, appC, Eng.Fi, reduceCtorEq, exists_eq_left', exists_eq_left, if_true, if_false, List.replicate, Nat.reduceAdd, Nat.reduceSub, Nat.reduceMul, Nat.reduceLeDiff, Nat.reduceLT, Nat.reduceEqDiff]
        refine Cor.lp (noC_good _) (noHx_good _) hm (S_fa l n T) (fun k => k ≤ l.length) (fun k => l.length - k) (a := 0) (Nat.zero_le _) (Wkn.to ⟨0, [], [], 0, [0, 1, 5, 7, 8, 9]⟩ rfl rfl (by simp [Wk.st, keepT, memN, Wk.fate, Wk.fate0, assoc, getE, Wk.hp, ABlk.sub, sub1, subs, S_fa, free_Vs, free_Tr, cnt])) ?_
        intro f k hk go
        rcases Nat.lt_or_ge k l.length with h | h
        · have e1 : decide ((k : Int) < (l.length : Int)) = true := lt_t h
          have e2 : (l.map eVs)[k]? = some (eVs l[k]) := get_e eVs l h
          have e3 : IntKind.wrap .i64 ((k : Int) + 1) = ((k + 1 : Nat) : Int) := suc_w (by omega)
          have hcs : cnt l (k + 1) = cnt l k + l[k].length := by rw [cnt, List.getElem?_eq_getElem h, Option.getD_some]
          have hk3 := (scE_z (hsc l[k] (List.getElem_mem h))).1
          have hck := hcb k (by omega)
          generalize l[k] = s at *
          have w1 : IntKind.wrap .i64 (((cnt l k : Nat) : Int) + (s.length : Int)) = ((cnt l (k + 1) : Nat) : Int) := by rw [hcs, wrap64 (by omega) (by omega)]; omega
          simp +contextual -implicitDefEqProofs (maxSteps := 2000000) only [S_fa, e1, e2, e3, w1, List.length_map, ruB, rh_no, Int.reduceLT, Int.reduceLE, Int.reduceAdd, Int.reduceSub, Int.reduceMul, Int.reduceNeg, Int.reduceToNat, Int.reduceEq, Int.reduceNe, Int.reduceTDiv, Int.reduceTMod, implies_true, putL, appN, appX, appC, Eng.Fi, reduceCtorEq, exists_eq_left', exists_eq_left, if_true, if_false, List.replicate, Nat.reduceAdd, Nat.reduceSub, Nat.reduceMul, Nat.reduceLeDiff, Nat.reduceLT, Nat.reduceEqDiff]
          exact go _ (k + 1) h (by omega) (Wkn.keep [0, 1, 5, 7, 8, 9] rfl)
        · have e1 : decide ((k : Int) < (l.length : Int)) = false := lt_f h
          have ek : k = l.length := by omega
          subst ek
          simp +contextual -implicitDefEqProofs (maxSteps := 2000000) only [S_fa, e1, List.length_map, eThen_normal, ruB, rh_no, Int.reduceLT, Int.reduceLE, Int.reduceAdd, Int.reduceSub, Int.reduceMul, Int.reduceNeg, Int.reduceToNat, Int.reduceEq, Int.reduceNe, Int.reduceTDiv, Int.reduceTMod, implies_true, putL, appN, appX, appC, Eng.Fi, reduceCtorEq, exists_eq_left', exists_eq_left, if_true, if_false, List.replicate, Nat.reduceAdd, Nat.reduceSub, Nat.reduceMul, Nat.reduceLeDiff, Nat.reduceLT, Nat.reduceEqDiff]
          exact Wkn.keep [0, 1, 5, 7, 8] rfl
      · refine Cor.seq (Cor.run (noC_good _) (noHx_good _) hm ?_)
        simp +contextual -implicitDefEqProofs (maxSteps := 2000000) only [S_fz, eThen_normal, ruB, rh_no, Int.reduceLT, Int.reduceLE, Int.reduceAdd, Int.reduceSub, Int.reduceMul, Int.reduceNeg, Int.reduceToNat, Int.reduceEq, Int.reduceNe, Int.reduceTDiv, Int.reduceTMod, implies_true, putL, appN, appX, appC, Eng.Fi, reduceCtorEq, exists_eq_left', exists_eq_left, if_true, if_false, List.replicate, Nat.reduceAdd, Nat.reduceSub, Nat.reduceMul, Nat.reduceLeDiff, Nat.reduceLT, Nat.reduceEqDiff]
        refine Cor.seq (Cor.seq (Cor.run (noC_good _) (noHx_good _) hm ?_))
        simp +contextual -implicitDefEqProofs (maxSteps := 2000000) only [Int.natCast_zero, eThen_normal, ruB, rh_no, Int.reduceLT, Int.reduceLE, Int.reduceAdd, Int.reduceSub, Int.reduceMul, Int.reduceNeg, Int.reduceToNat, Int.reduceEq, Int.reduceNe, Int.reduceTDiv, Int.reduceTMod, implies_true, putL, appN, appX, appC, Eng.Fi, reduceCtorEq, exists_eq_left', exists_eq_left, if_true, if_false, List.replicate, Nat.reduceAdd, Nat.reduceSub, Nat.reduceMul, Nat.reduceLeDiff, Nat.reduceLT, Nat.reduceEqDiff]
        refine Cor.block (Cor.loopC (fun i => S_fb l n T (T.take i).flatten i) (fun i => i ≤ T.length) (fun i => T.length - i) (a := 0) ?_ (Nat.zero_le _) (Wkn.to ⟨0, [], [], 1, [0, 1, 5, 7, 8, 10, 11]⟩ rfl rfl (by simp [Wk.st, keepT, memN, Wk.fate, Wk.fate0, assoc, getE, Wk.hp, ABlk.sub, sub1, subs, S_fb, free_Vs, free_Tr, gA, gH])))
        intro i hi
        rcases Nat.lt_or_ge i T.length with hlt | hge
        · have e1 : ((i : Int) < (T.length : Int)) = True := eq_true (by omega)
          have e2 : (T.map eTr)[i]? = some (eTr T[i]) := get_e eTr T hlt
          have hTn : T.length ≤ 100 := by have := len_flat T hT.ne; omega
          have e3 : IntKind.wrap .i64 ((i : Int) + 1) = ((i + 1 : Nat) : Int) := suc_w (by omega)
          have hxm : T[i] ∈ T := List.getElem_mem hlt
          obtain ⟨hx0, hx1⟩ := hTl _ hxm
          have hft := flat_take T hlt
          have hns := fun k (hk : k < T[i].length) => not_seen hT.nd hlt hk
          have hrg := hT.rg _ hxm
          have hch := hT.ch _ hxm
          obtain ⟨x, hx⟩ : ∃ x, T[i] = x := ⟨_, rfl⟩
          simp only [hx] at e2 hx0 hx1 hft hns hrg hch
          have z0 : ((x.length : Int) = 0) = False := eq_false (by omega)
          have z1 : ((l.length : Int) < (x.length : Int)) = False := eq_false (by omega)
          generalize hseen : (T.take i).flatten = seen0 at *
          refine Cor.seq (Cor.run (noC_good _) (noHx_good _) hm ?_)
          simp +contextual -implicitDefEqProofs (maxSteps := 2000000) only [S_fb, e1, List.length_map, eThen_normal, ruB, rh_no, Int.reduceLT, Int.reduceLE, Int.reduceAdd, Int.reduceSub, Int.reduceMul, Int.reduceNeg, Int.reduceToNat, Int.reduceEq, Int.reduceNe, Int.reduceTDiv, Int.reduceTMod, implies_true, putL, appN, appX, appC, Eng.Fi, reduceCtorEq, exists_eq_left', exists_eq_left, if_true, if_false, List.replicate, Nat.reduceAdd, Nat.reduceSub, Nat.reduceMul, Nat.reduceLeDiff, Nat.reduceLT, Nat.reduceEqDiff]
          refine Cor.seq (Cor.block (Cor.seq (Cor.run (noC_good _) (noHx_good _) hm ?_)))
          simp +contextual -implicitDefEqProofs (maxSteps := 2000000) only [e2, z0, z1, List.length_map, eThen_normal, ruB, rh_no, Int.reduceLT, Int.reduceLE, Int.reduceAdd, Int.reduceSub, Int.reduceMul, Int.reduceNeg, Int.reduceToNat, Int.reduceEq, Int.reduceNe, Int.reduceTDiv, Int.reduceTMod, implies_true, putL, appN, appX, appC, Eng.Fi, reduceCtorEq, exists_eq_left', exists_eq_left, if_true, if_false, List.replicate, Nat.reduceAdd, Nat.reduceSub, Nat.reduceMul, Nat.reduceLeDiff, Nat.reduceLT, Nat.reduceEqDiff]
          refine Cor.seq (Cor.run (noC_good _) (noHx_good _) hm ?_)
          simp +contextual -implicitDefEqProofs (maxSteps := 2000000) only [Int.natCast_zero, eThen_normal, ruB, rh_no, Int.reduceLT, Int.reduceLE, Int.reduceAdd, Int.reduceSub, Int.reduceMul, Int.reduceNeg, Int.reduceToNat, Int.reduceEq, Int.reduceNe, Int.reduceTDiv, Int.reduceTMod, implies_true, putL, appN, appX, appC, Eng.Fi, reduceCtorEq, exists_eq_left', exists_eq_left, if_true, if_false, List.replicate, Nat.reduceAdd, Nat.reduceSub, Nat.reduceMul, Nat.reduceLeDiff, Nat.reduceLT, Nat.reduceEqDiff]
          refine Cor.block (Cor.loopC (fun k => S_fc l n T (seen0 ++ x.take k) i k) (fun k => k ≤ x.length) (fun k => x.length - k) (a := 0) ?_ (Nat.zero_le _) (by rw [List.take_zero, List.append_nil]; exact Wkn.keep [0, 1, 5, 7, 8, 10, 11, 12] rfl))
          intro k hk
          have hsl : (seen0 ++ x.take k).length ≤ 1000 := by
            have h1 : seen0.length ≤ T.flatten.length := by
              rw [← hseen]
              have : T.flatten = (T.take i).flatten ++ (T.drop i).flatten := by rw [← List.flatten_append, List.take_append_drop]
              rw [this, List.length_append]; omega
            rw [List.length_append, List.length_take]; omega
          rcases Nat.lt_or_ge k x.length with hlt2 | hge2
          · have u1 : ((k : Int) < (x.length : Int)) = True := eq_true (by omega)
            have u3 : IntKind.wrap .i64 ((k : Int) + 1) = ((k + 1 : Nat) : Int) := suc_w (by omega)
            have u2 : (x.map eP2)[k]? = some (eP2 x[k]) := get_e eP2 x hlt2
            have hnk := hns k hlt2
            have htk : seen0 ++ x.take (k + 1) = (seen0 ++ x.take k) ++ [x[k]] := by rw [List.take_succ_eq_append_getElem hlt2, List.append_assoc]
            obtain ⟨a, b, hab, hb0, _⟩ := hrg x[k] (List.getElem_mem hlt2)
            obtain ⟨hal, hbl⟩ := gv_lt hb0
            have v2 : (l.map eVs)[a]? = some (eVs l[a]) := get_e eVs l hal
            have hs3 := (scE_z (hsc l[a] (List.getElem_mem hal))).1
            have w1 : IntKind.wrap .i64 ((l.length : Int) - 1) = (l.length : Int) - 1 := wrap64 (by omega) (by omega)
            have w2 : IntKind.wrap .i64 ((l[a].length : Int) - 1) = (l[a].length : Int) - 1 := wrap64 (by omega) (by omega)
            have yw1 := x_Within (a : Int) 0 ((l.length : Int) - 1)
            rw [show decide (0 ≤ (a : Int) ∧ (a : Int) ≤ (l.length : Int) - 1) = true from decide_eq_true (by omega)] at yw1
            have yw2 := x_Within (b : Int) 0 ((l[a].length : Int) - 1)
            rw [show decide (0 ≤ (b : Int) ∧ (b : Int) ≤ (l[a].length : Int) - 1) = true from decide_eq_true (by omega)] at yw2
            rw [hab] at u2 hnk htk
            generalize hsk : seen0 ++ x.take k = seen at *
            have hfs := fun φ => free_P2 φ seen
            have hsg : ∀ K, Eng.setB (gH 0 36 2 (seen.map eP2)) 1 1 K = gH 0 36 2 (seen.map eP2) := fun K => by cases seen <;> rfl
            have hA0 : (0 ≤ (a : Int)) = True := eq_true (by omega)
            have hAl : (a < l.length) = True := eq_true hal
            refine Cor.seq (Cor.run (noC_good _) (noHx_good _) hm ?_)
            simp +contextual -implicitDefEqProofs (maxSteps := 2000000) only [S_fc, e2, u1, List.length_map, eThen_normal, ruB, rh_no, Int.reduceLT, Int.reduceLE, Int.reduceAdd, Int.reduceSub, Int.reduceMul, Int.reduceNeg, Int.reduceToNat, Int.reduceEq, Int.reduceNe, Int.reduceTDiv, Int.reduceTMod, implies_true, putL, appN, appX, appC, Eng.Fi, reduceCtorEq, exists_eq_left', exists_eq_left, if_true, if_false, List.replicate, Nat.reduceAdd, Nat.reduceSub, Nat.reduceMul, Nat.reduceLeDiff, Nat.reduceLT, Nat.reduceEqDiff]
            refine Cor.seq (Cor.block (Cor.seq (Cor.run (noC_good _) (noHx_good _) hm ?_)))
            simp +contextual -implicitDefEqProofs (maxSteps := 2000000) only [e2, u2, hsg, List.length_map, eThen_normal, ruB, rh_no, Int.reduceLT, Int.reduceLE, Int.reduceAdd, Int.reduceSub, Int.reduceMul, Int.reduceNeg, Int.reduceToNat, Int.reduceEq, Int.reduceNe, Int.reduceTDiv, Int.reduceTMod, implies_true, putL, appN, appX, appC, Eng.Fi, reduceCtorEq, exists_eq_left', exists_eq_left, if_true, if_false, List.replicate, Nat.reduceAdd, Nat.reduceSub, Nat.reduceMul, Nat.reduceLeDiff, Nat.reduceLT, Nat.reduceEqDiff]
            refine Cor.wk (s2 := S_fd l n T seen i k ((a : Int), (b : Int))) ?_ ?_
            · cases seen with
              | nil => exact Wkn.to ⟨0, [(1, 1)], [], 2, [0, 1, 5, 7, 8, 10, 11, 12, 13]⟩ rfl rfl (by simp [Wk.st, keepT, memN, Wk.fate, Wk.fate0, assoc, getE, Wk.hp, ABlk.sub, sub1, subs, S_fd, gA, gH, free_Vs, free_Tr])
              | cons z zr =>
                simp only [List.map_cons, subs, List.cons.injEq] at hfs
                exact Wkn.to ⟨0, [(0, 0), (1, 1)], [], 2, [0, 1, 5, 7, 8, 10, 11, 12, 13]⟩ rfl rfl (by simp [Wk.st, keepT, memN, Wk.fate, Wk.fate0, assoc, getE, Wk.hp, ABlk.sub, sub1, subs, S_fd, gA, gH, free_Vs, free_Tr, hfs])
            have hprev : 0 < k → ∃ (i' c : Nat) (hk1 : k - 1 < x.length), x[k - 1] = ((c : Int), (i' : Int)) ∧ a = c + 1 ∧ (lkS l n a)[i']? = some (b : Int) := fun hk0 => by
              obtain ⟨c, i', k', e1', e2', e3'⟩ := hch (k - 1) (by omega)
              have ekk : k - 1 + 1 = k := by omega
              simp only [ekk] at e2'
              rw [hab] at e2'
              simp only [Prod.mk.injEq] at e2'
              have ec : a = c + 1 := by omega
              have eb : b = k' := by omega
              exact ⟨i', c, by omega, e1', ec, by rw [ec, eb]; exact e3'⟩
            refine Cor.seqW (s2 := S_fd l n T seen i k ((a : Int), (b : Int))) ?_ ?_
            · refine Cor.run (addC_good g_Within (noC_good _)) (noHx_good _) hm ?_
              by_cases hk0 : k = 0
              · have k0 : (0 < (k : Int)) = False := eq_false (by omega)
                simp +contextual -implicitDefEqProofs (maxSteps := 2000000) only [S_fd, yw1, yw2, w1, w2, v2, k0, hA0, hAl, List.length_map, eThen_normal, not_true_eq_false, ruB, rh_no, Int.reduceLT, Int.reduceLE, Int.reduceAdd, Int.reduceSub, Int.reduceMul, Int.reduceNeg, Int.reduceToNat, Int.reduceEq, Int.reduceNe, Int.reduceTDiv, Int.reduceTMod, implies_true, putL, appN, appX, appC, Eng.Fi, reduceCtorEq, exists_eq_left', exists_eq_left, if_true, if_false, List.replicate, Nat.reduceAdd, Nat.reduceSub, Nat.reduceMul, Nat.reduceLeDiff, Nat.reduceLT, Nat.reduceEqDiff]
                exact Wkn.keep [0, 1, 5, 7, 8, 10, 11, 12, 13] rfl
              · have k0 : (0 < (k : Int)) = True := eq_true (by omega)
                obtain ⟨i', c, hk1, q1, q2, q3⟩ := hprev (by omega)
                have w3 : IntKind.wrap .i64 ((k : Int) - 1) = ((k - 1 : Nat) : Int) := by rw [wrap64 (by omega) (by omega)]; omega
                have u4 : (x.map eP2)[k - 1]? = some (eP2 x[k - 1]) := get_e eP2 x hk1
                rw [q1] at u4
                have w4 : IntKind.wrap .i64 ((c : Int) + 1) = (a : Int) := by rw [wrap64 (by omega) (by omega)]; omega
                simp +contextual -implicitDefEqProofs (maxSteps := 2000000) only [S_fd, yw1, yw2, w1, w2, w3, w4, v2, e2, u4, k0, hA0, hAl, List.length_map, eThen_normal, not_true_eq_false, ruB, rh_no, Int.reduceLT, Int.reduceLE, Int.reduceAdd, Int.reduceSub, Int.reduceMul, Int.reduceNeg, Int.reduceToNat, Int.reduceEq, Int.reduceNe, Int.reduceTDiv, Int.reduceTMod, implies_true, putL, appN, appX, appC, Eng.Fi, reduceCtorEq, exists_eq_left', exists_eq_left, if_true, if_false, List.replicate, Nat.reduceAdd, Nat.reduceSub, Nat.reduceMul, Nat.reduceLeDiff, Nat.reduceLT, Nat.reduceEqDiff]
                exact Wkn.keep [0, 1, 5, 7, 8, 10, 11, 12, 13] rfl
            · refine Cor.seqW (s2 := S_fd l n T seen i k ((a : Int), (b : Int))) ?_ ?_
              · refine Cor.run (noC_good _) (noHx_good _) hm ?_
                simp +contextual -implicitDefEqProofs (maxSteps := 2000000) only [S_fd, Int.natCast_zero, ruB, rh_no, Int.reduceLT, Int.reduceLE, Int.reduceAdd, Int.reduceSub, Int.reduceMul, Int.reduceNeg, Int.reduceToNat, Int.reduceEq, Int.reduceNe, Int.reduceTDiv, Int.reduceTMod, implies_true, putL, appN, appX, appC, Eng.Fi, reduceCtorEq, exists_eq_left', exists_eq_left, if_true, if_false, List.replicate, Nat.reduceAdd, Nat.reduceSub, Nat.reduceMul, Nat.reduceLeDiff, Nat.reduceLT, Nat.reduceEqDiff]
                refine Cor.lp (noC_good _) (noHx_good _) hm (S_fe l n T seen i k ((a : Int), (b : Int))) (fun j => j ≤ seen.length) (fun j => seen.length - j) (a := 0) (Nat.zero_le _) (Wkn.keep [0, 1, 5, 7, 8, 10, 11, 12, 13, 14] rfl) ?_
                intro f j hj go
                rcases Nat.lt_or_ge j seen.length with hlt3 | hge3
                · have d1 : ((j : Int) < (seen.length : Int)) = True := eq_true (by omega)
                  have d3 : IntKind.wrap .i64 ((j : Int) + 1) = ((j + 1 : Nat) : Int) := suc_w (by omega)
                  have d2 : (seen.map eP2)[j]? = some (eP2 seen[j]) := get_e eP2 seen hlt3
                  have d4 : (seen[j].1 = (a : Int) ∧ seen[j].2 = (b : Int)) = False := eq_false fun q => hnk (by
                    have : seen[j] = ((a : Int), (b : Int)) := Prod.ext q.1 q.2
                    rw [← this]; exact List.getElem_mem hlt3)
                  have d5 : (j < seen.length) = True := eq_true hlt3
                  generalize seen[j] = sj at *
                  cases seen with
                  | nil => simp at hlt3
                  | cons z zr =>
                    simp only [List.map_cons, List.length_cons] at d1 d2 d5
                    simp +contextual -implicitDefEqProofs (maxSteps := 2000000) only [S_fe, gA, gH, d1, d2, d3, d4, d5, List.map_cons, List.length_map, ruB, rh_no, Int.reduceLT, Int.reduceLE, Int.reduceAdd, Int.reduceSub, Int.reduceMul, Int.reduceNeg, Int.reduceToNat, Int.reduceEq, Int.reduceNe, Int.reduceTDiv, Int.reduceTMod, implies_true, putL, appN, appX, appC, Eng.Fi, reduceCtorEq, exists_eq_left', exists_eq_left, if_true, if_false, List.replicate, Nat.reduceAdd, Nat.reduceSub, Nat.reduceMul, Nat.reduceLeDiff, Nat.reduceLT, Nat.reduceEqDiff]
                    refine go _ (j + 1) hlt3 (by omega) ?_
                    try simp only [S_fe, gA, gH, List.map_cons, List.length_map, List.length_cons]
                    exact Wkn.keep [0, 1, 5, 7, 8, 10, 11, 12, 13, 14] rfl
                · have d1 : ((j : Int) < (seen.length : Int)) = False := eq_false (by omega)
                  cases seen with
                  | nil =>
                    have d1 : ((j : Int) < 0) = False := eq_false (by omega)
                    simp +contextual -implicitDefEqProofs (maxSteps := 2000000) only [S_fe, gA, gH, d1, List.map_nil, eThen_normal, ruB, rh_no, Int.reduceLT, Int.reduceLE, Int.reduceAdd, Int.reduceSub, Int.reduceMul, Int.reduceNeg, Int.reduceToNat, Int.reduceEq, Int.reduceNe, Int.reduceTDiv, Int.reduceTMod, implies_true, putL, appN, appX, appC, Eng.Fi, reduceCtorEq, exists_eq_left', exists_eq_left, if_true, if_false, List.replicate, Nat.reduceAdd, Nat.reduceSub, Nat.reduceMul, Nat.reduceLeDiff, Nat.reduceLT, Nat.reduceEqDiff]
                    exact Wkn.keep [0, 1, 5, 7, 8, 10, 11, 12, 13] rfl
                  | cons z zr =>
                    simp only [List.length_cons] at d1
                    simp +contextual -implicitDefEqProofs (maxSteps := 2000000) only [S_fe, gA, gH, d1, List.map_cons, List.length_map, eThen_normal, ruB, rh_no, Int.reduceLT, Int.reduceLE, Int.reduceAdd, Int.reduceSub, Int.reduceMul, Int.reduceNeg, Int.reduceToNat, Int.reduceEq, Int.reduceNe, Int.reduceTDiv, Int.reduceTMod, implies_true, putL, appN, appX, appC, Eng.Fi, reduceCtorEq, exists_eq_left', exists_eq_left, if_true, if_false, List.replicate, Nat.reduceAdd, Nat.reduceSub, Nat.reduceMul, Nat.reduceLeDiff, Nat.reduceLT, Nat.reduceEqDiff]
                    try simp only [S_fd, gA, gH, List.map_cons, List.length_map, List.length_cons]
                    exact Wkn.keep [0, 1, 5, 7, 8, 10, 11, 12, 13] rfl
              · refine Cor.seqW (s2 := S_ff l n T (seen ++ [((a : Int), (b : Int))]) i k ((a : Int), (b : Int))) ?_ ?_
                · refine Cor.run (noC_good _) (noHx_good _) hm ?_
                  have m1 : (seen.length + 1 ≤ maxLen) = True := mx (by omega)
                  have m2 : ((seen.length + 1) * 16 ≤ 140737488355328) = True := by simp only [eq_iff_iff, iff_true]; omega
                  have m3 : IntKind.wrap .i64 ((seen.length : Int) + 1) = ((seen.length + 1 : Nat) : Int) := suc_w (by omega)
                  have o1 : (1 ≤ maxLen) = True := mx (by omega)
                  cases seen with
                  | nil =>
                    have m30 : IntKind.wrap .i64 1 = 1 := wrap64 (by omega) (by omega)
                    simp +contextual -implicitDefEqProofs (maxSteps := 2000000) only [S_fd, gA, gH, o1, m30, rs_nil, rs_t, rs_f, ag_nils, ag_sl, ag_vs, ag_str, ag_ptr, ag_nilp, ag_vp, ag_fun, List.map_nil, eThen_normal, ruB, rh_no, Int.reduceLT, Int.reduceLE, Int.reduceAdd, Int.reduceSub, Int.reduceMul, Int.reduceNeg, Int.reduceToNat, Int.reduceEq, Int.reduceNe, Int.reduceTDiv, Int.reduceTMod, implies_true, putL, appN, appX, appC, Eng.Fi, reduceCtorEq, exists_eq_left', exists_eq_left, if_true, if_false, List.replicate, Nat.reduceAdd, Nat.reduceSub, Nat.reduceMul, Nat.reduceLeDiff, Nat.reduceLT, Nat.reduceEqDiff]
                    exact Wkn.to ⟨0, [(2, 0), (1, 1)], [], 2, [0, 1, 5, 7, 8, 10, 11, 12, 13]⟩ rfl rfl (by simp [Wk.st, keepT, memN, Wk.fate, Wk.fate0, assoc, getE, Wk.hp, ABlk.sub, sub1, subs, S_ff, gA, gH, free_Vs, free_Tr, m30])
                  | cons z zr =>
                    simp only [List.map_cons, subs, List.cons.injEq, List.length_cons] at hfs m1 m2 m3
                    simp +contextual -implicitDefEqProofs (maxSteps := 2000000) only [S_fd, gA, gH, m1, m2, m3, rs_nil, rs_t, rs_f, ag_nils, ag_sl, ag_vs, ag_str, ag_ptr, ag_nilp, ag_vp, ag_fun, List.map_cons, List.length_map, eThen_normal, ruB, rh_no, Int.reduceLT, Int.reduceLE, Int.reduceAdd, Int.reduceSub, Int.reduceMul, Int.reduceNeg, Int.reduceToNat, Int.reduceEq, Int.reduceNe, Int.reduceTDiv, Int.reduceTMod, implies_true, putL, appN, appX, appC, Eng.Fi, reduceCtorEq, exists_eq_left', exists_eq_left, if_true, if_false, List.replicate, Nat.reduceAdd, Nat.reduceSub, Nat.reduceMul, Nat.reduceLeDiff, Nat.reduceLT, Nat.reduceEqDiff]
                    exact Wkn.to ⟨0, [(2, 0), (1, 1)], [], 2, [0, 1, 5, 7, 8, 10, 11, 12, 13]⟩ rfl rfl (by simp [Wk.st, keepT, memN, Wk.fate, Wk.fate0, assoc, getE, Wk.hp, ABlk.sub, sub1, subs, S_ff, gA, gH, free_Vs, free_Tr, hfs, subs_append])
                · have hsl2 : (seen ++ [((a : Int), (b : Int))]).length ≤ 1001 := by rw [List.length_append, List.length_singleton]; omega
                  have hne2 : seen ++ [((a : Int), (b : Int))] ≠ [] := by simp
                  generalize hs2 : seen ++ [((a : Int), (b : Int))] = sn at *
                  have hfz := fun φ => free_P2 φ sn
                  cases sn with
                  | nil => exact absurd rfl hne2
                  | cons z zr =>
                    simp only [List.map_cons, subs, List.cons.injEq] at hfz
                    by_cases hk0 : k = 0
                    · have k00 : ((k : Int) = 0) = True := eq_true (by omega)
                      refine Cor.seq (Cor.run (noC_good _) (noHx_good _) hm ?_)
                      simp +contextual -implicitDefEqProofs (maxSteps := 2000000) only [S_ff, gA, gH, k00, List.map_cons, List.length_map, List.length_cons, List.cons_append, List.nil_append, eThen_exit, eBlk_exit, eThen_normal, ruB, rh_no, Int.reduceLT, Int.reduceLE, Int.reduceAdd, Int.reduceSub, Int.reduceMul, Int.reduceNeg, Int.reduceToNat, Int.reduceEq, Int.reduceNe, Int.reduceTDiv, Int.reduceTMod, implies_true, putL, appN, appX, appC, Eng.Fi, reduceCtorEq, exists_eq_left', exists_eq_left, if_true, if_false, List.replicate, Nat.reduceAdd, Nat.reduceSub, Nat.reduceMul, Nat.reduceLeDiff, Nat.reduceLT, Nat.reduceEqDiff]
                      refine Cor.run (noC_good _) (noHx_good _) hm ?_
                      simp +contextual -implicitDefEqProofs (maxSteps := 2000000) only [u3, eThen_normal, ruB, rh_no, Int.reduceLT, Int.reduceLE, Int.reduceAdd, Int.reduceSub, Int.reduceMul, Int.reduceNeg, Int.reduceToNat, Int.reduceEq, Int.reduceNe, Int.reduceTDiv, Int.reduceTMod, implies_true, putL, appN, appX, appC, Eng.Fi, reduceCtorEq, exists_eq_left', exists_eq_left, if_true, if_false, List.replicate, Nat.reduceAdd, Nat.reduceSub, Nat.reduceMul, Nat.reduceLeDiff, Nat.reduceLT, Nat.reduceEqDiff]
                      refine ⟨k + 1, hlt2, by omega, ?_⟩
                      rw [htk]
                      exact Wkn.to ⟨0, [(0, 0)], [], 1, [0, 1, 5, 7, 8, 10, 11, 12]⟩ rfl rfl (by simp [Wk.st, keepT, memN, Wk.fate, Wk.fate0, assoc, getE, Wk.hp, ABlk.sub, sub1, subs, S_fc, gA, gH, free_Vs, free_Tr, hfz]; have h7 := congrArg List.length htk; simp at h7; omega)
                    · have k00 : ((k : Int) = 0) = False := eq_false (by omega)
                      obtain ⟨i', c, hk1, q1, q2, q3⟩ := hprev (by omega)
                      have w3 : IntKind.wrap .i64 ((k : Int) - 1) = ((k - 1 : Nat) : Int) := by rw [wrap64 (by omega) (by omega)]; omega
                      have u4 : (x.map eP2)[k - 1]? = some (eP2 x[k - 1]) := get_e eP2 x hk1
                      rw [q1] at u4
                      have hcl : c < l.length := by omega
                      have hpv : pvS l a = l[c] := by
                        unfold pvS
                        rw [if_neg (by omega), show a - 1 = c by omega, List.getElem?_eq_getElem hcl]; rfl
                      have hga : (l[a]?).getD [] = l[a] := by rw [List.getElem?_eq_getElem hal]; rfl
                      unfold lkS at q3
                      rw [hpv, hga] at q3
                      have hol := soE_pair h0 (List.getElem_mem hcl) (List.getElem_mem hal)
                      have v5 : (l.map eVs)[c]? = some (eVs l[c]) := get_e eVs l hcl
                      have hC0 : (0 ≤ (c : Int)) = True := eq_true (by omega)
                      have hCl : (c < l.length) = True := eq_true hcl
                      have hlen := liV_len2 hol
                      have hil : i' < (liV l[c] l[a] n).length := (List.getElem?_eq_some_iff.1 q3).1
                      have hic : i' < l[c].length := by omega
                      have hcost := lk_cost hol hic hbl q3
                      have hvc := (scE_z (hsc l[c] (List.getElem_mem hcl))).2 _ (List.getElem_mem hic)
                      have hva := (scE_z (hsc l[a] (List.getElem_mem hal))).2 _ (List.getElem_mem hbl)
                      have hlc := (scE_z (hsc l[c] (List.getElem_mem hcl))).1
                      have yo := x_rOff l[c][i'] l[a][b] (by simp only [hvc, hva, and_self])
                      have yc1 := x_CopyVortices l[c] (by simp only [eq_iff_iff, iff_true]; omega)
                      have yc2 := x_CopyVortices l[a] (by simp only [eq_iff_iff, iff_true]; omega)
                      have yl := x_LinksOf l[c] l[a] n
                      rw [lsV, if_pos hol] at yl
                      have g1 : (l[c].map eVo)[i']? = some (eVo l[c][i']) := get_e eVo _ hic
                      have g2 : (l[a].map eVo)[b]? = some (eVo l[a][b]) := get_e eVo _ hbl
                      have g3 : ((liV l[c] l[a] n).map eI)[i']? = some (eI (b : Int)) := by rw [List.getElem?_map, q3]; rfl
                      have hln : ((liV l[c] l[a] n).length : Int) = (l[c].length : Int) := by rw [hlen]
                      have hI0 : (0 ≤ (i' : Int)) = True := eq_true (by omega)
                      have hIl : (i' < l[c].length) = True := eq_true hic
                      have hIl2 : (i' < (liV l[c] l[a] n).length) = True := eq_true hil
                      have hB0 : (0 ≤ (b : Int)) = True := eq_true (by omega)
                      have hBl : (b < l[a].length) = True := eq_true hbl
                      have w5 : IntKind.wrap .i64 (2 * n) = 2 * n := by unfold miR at hmi; exact wrap64 (by omega) (by omega)
                      generalize offV l[c][i'] l[a][b] = off at *
                      have hof : (2 * n < off) = False := eq_false (by omega)
                      generalize liV l[c] l[a] n = lk at *
                      obtain ⟨sc, hscq⟩ : ∃ sc, l[c] = sc := ⟨_, rfl⟩
                      obtain ⟨sa, hsaq⟩ : ∃ sa, l[a] = sa := ⟨_, rfl⟩
                      refine Cor.seq (Cor.run (noC_good _) (noHx_good _) hm ?_)
                      simp +contextual -implicitDefEqProofs (maxSteps := 2000000) only [S_ff, gA, gH, k00, List.map_cons, List.length_map, List.length_cons, List.cons_append, List.nil_append, eThen_normal, ruB, rh_no, Int.reduceLT, Int.reduceLE, Int.reduceAdd, Int.reduceSub, Int.reduceMul, Int.reduceNeg, Int.reduceToNat, Int.reduceEq, Int.reduceNe, Int.reduceTDiv, Int.reduceTMod, implies_true, putL, appN, appX, appC, Eng.Fi, reduceCtorEq, exists_eq_left', exists_eq_left, if_true, if_false, List.replicate, Nat.reduceAdd, Nat.reduceSub, Nat.reduceMul, Nat.reduceLeDiff, Nat.reduceLT, Nat.reduceEqDiff]
                      refine Cor.seq (Cor.run (noC_good _) (noHx_good _) hm ?_)
                      simp +contextual -implicitDefEqProofs (maxSteps := 2000000) only [e2, u4, w3, List.length_map, eThen_normal, ruB, rh_no, Int.reduceLT, Int.reduceLE, Int.reduceAdd, Int.reduceSub, Int.reduceMul, Int.reduceNeg, Int.reduceToNat, Int.reduceEq, Int.reduceNe, Int.reduceTDiv, Int.reduceTMod, implies_true, putL, appN, appX, appC, Eng.Fi, reduceCtorEq, exists_eq_left', exists_eq_left, if_true, if_false, List.replicate, Nat.reduceAdd, Nat.reduceSub, Nat.reduceMul, Nat.reduceLeDiff, Nat.reduceLT, Nat.reduceEqDiff]
                      refine Cor.seq (Cor.run (addC_good g_LinksOf (addC_good g_CopyVortices (noC_good _))) (noHx_good _) hm ?_)
                      simp +contextual -implicitDefEqProofs (maxSteps := 2000000) only [v2, v5, yc1, yc2, yl, hA0, hAl, hC0, hCl, List.length_map, eThen_normal, ruB, rh_no, Int.reduceLT, Int.reduceLE, Int.reduceAdd, Int.reduceSub, Int.reduceMul, Int.reduceNeg, Int.reduceToNat, Int.reduceEq, Int.reduceNe, Int.reduceTDiv, Int.reduceTMod, implies_true, putL, appN, appX, appC, Eng.Fi, reduceCtorEq, exists_eq_left', exists_eq_left, if_true, if_false, List.replicate, Nat.reduceAdd, Nat.reduceSub, Nat.reduceMul, Nat.reduceLeDiff, Nat.reduceLT, Nat.reduceEqDiff]
                      refine Cor.seq (Cor.run (addC_good g_rOff (noC_good _)) (noHx_good _) hm ?_)
                      simp +contextual -implicitDefEqProofs (maxSteps := 2000000) only [v2, v5, g1, g2, yo, hA0, hAl, hC0, hCl, hI0, hIl, hB0, hBl, List.length_map, eThen_normal, ruB, rh_no, Int.reduceLT, Int.reduceLE, Int.reduceAdd, Int.reduceSub, Int.reduceMul, Int.reduceNeg, Int.reduceToNat, Int.reduceEq, Int.reduceNe, Int.reduceTDiv, Int.reduceTMod, implies_true, putL, appN, appX, appC, Eng.Fi, reduceCtorEq, exists_eq_left', exists_eq_left, if_true, if_false, List.replicate, Nat.reduceAdd, Nat.reduceSub, Nat.reduceMul, Nat.reduceLeDiff, Nat.reduceLT, Nat.reduceEqDiff]
                      refine Cor.run (noC_good _) (noHx_good _) hm ?_
                      simp +contextual -implicitDefEqProofs (maxSteps := 2000000) only [v5, g3, hln, w5, hof, hC0, hCl, hI0, hIl2, List.length_map, eBlk_normal, eThen_normal, not_true_eq_false, ruB, rh_no, Int.reduceLT, Int.reduceLE, Int.reduceAdd, Int.reduceSub, Int.reduceMul, Int.reduceNeg, Int.reduceToNat, Int.reduceEq, Int.reduceNe, Int.reduceTDiv, Int.reduceTMod, implies_true, putL, appN, appX, appC, Eng.Fi, reduceCtorEq, exists_eq_left', exists_eq_left, if_true, if_false, List.replicate, Nat.reduceAdd, Nat.reduceSub, Nat.reduceMul, Nat.reduceLeDiff, Nat.reduceLT, Nat.reduceEqDiff]
                      refine Cor.run (noC_good _) (noHx_good _) hm ?_
                      simp +contextual -implicitDefEqProofs (maxSteps := 2000000) only [u3, eThen_normal, ruB, rh_no, Int.reduceLT, Int.reduceLE, Int.reduceAdd, Int.reduceSub, Int.reduceMul, Int.reduceNeg, Int.reduceToNat, Int.reduceEq, Int.reduceNe, Int.reduceTDiv, Int.reduceTMod, implies_true, putL, appN, appX, appC, Eng.Fi, reduceCtorEq, exists_eq_left', exists_eq_left, if_true, if_false, List.replicate, Nat.reduceAdd, Nat.reduceSub, Nat.reduceMul, Nat.reduceLeDiff, Nat.reduceLT, Nat.reduceEqDiff]
                      refine ⟨k + 1, hlt2, by omega, ?_⟩
                      rw [htk]
                      exact Wkn.to ⟨0, [(0, 0)], [], 1, [0, 1, 5, 7, 8, 10, 11, 12]⟩ rfl rfl (by simp [Wk.st, keepT, memN, Wk.fate, Wk.fate0, assoc, getE, Wk.hp, ABlk.sub, sub1, subs, S_fc, gA, gH, free_Vs, free_Tr, hfz]; have h7 := congrArg List.length htk; simp at h7; omega)
          · have u1 : ((k : Int) < (x.length : Int)) = False := eq_false (by omega)
            have ek : k = x.length := by omega
            have hfin : seen0 ++ x.take k = (T.take (i + 1)).flatten := by rw [hft, ek, List.take_length]
            generalize hsk : seen0 ++ x.take k = seen at *
            refine Cor.seq (Cor.run (noC_good _) (noHx_good _) hm ?_)
            simp +contextual -implicitDefEqProofs (maxSteps := 2000000) only [S_fc, e2, u1, List.length_map, eThen_exit, eBlk_exit, eBlk_normal, eThen_normal, ruB, rh_no, Int.reduceLT, Int.reduceLE, Int.reduceAdd, Int.reduceSub, Int.reduceMul, Int.reduceNeg, Int.reduceToNat, Int.reduceEq, Int.reduceNe, Int.reduceTDiv, Int.reduceTMod, implies_true, putL, appN, appX, appC, Eng.Fi, reduceCtorEq, exists_eq_left', exists_eq_left, if_true, if_false, List.replicate, Nat.reduceAdd, Nat.reduceSub, Nat.reduceMul, Nat.reduceLeDiff, Nat.reduceLT, Nat.reduceEqDiff]
            refine Cor.run (noC_good _) (noHx_good _) hm ?_
            simp +contextual -implicitDefEqProofs (maxSteps := 2000000) only [e3, eThen_normal, ruB, rh_no, Int.reduceLT, Int.reduceLE, Int.reduceAdd, Int.reduceSub, Int.reduceMul, Int.reduceNeg, Int.reduceToNat, Int.reduceEq, Int.reduceNe, Int.reduceTDiv, Int.reduceTMod, implies_true, putL, appN, appX, appC, Eng.Fi, reduceCtorEq, exists_eq_left', exists_eq_left, if_true, if_false, List.replicate, Nat.reduceAdd, Nat.reduceSub, Nat.reduceMul, Nat.reduceLeDiff, Nat.reduceLT, Nat.reduceEqDiff]
            refine ⟨i + 1, hlt, by omega, ?_⟩
            rw [← hfin]
            exact Wkn.keep [0, 1, 5, 7, 8, 10, 11] rfl
        · have e1 : ((i : Int) < (T.length : Int)) = False := eq_false (by omega)
          have ei : i = T.length := by omega
          subst ei
          have hfl : ((T.flatten.length : Int) = ((cnt l l.length : Nat) : Int)) = True := eq_true (by rw [hct])
          rw [List.take_length]
          refine Cor.seq (Cor.run (noC_good _) (noHx_good _) hm ?_)
          simp +contextual -implicitDefEqProofs (maxSteps := 2000000) only [S_fb, e1, List.length_map, eThen_exit, eBlk_exit, eThen_normal, ruB, rh_no, Int.reduceLT, Int.reduceLE, Int.reduceAdd, Int.reduceSub, Int.reduceMul, Int.reduceNeg, Int.reduceToNat, Int.reduceEq, Int.reduceNe, Int.reduceTDiv, Int.reduceTMod, implies_true, putL, appN, appX, appC, Eng.Fi, reduceCtorEq, exists_eq_left', exists_eq_left, if_true, if_false, List.replicate, Nat.reduceAdd, Nat.reduceSub, Nat.reduceMul, Nat.reduceLeDiff, Nat.reduceLT, Nat.reduceEqDiff]
          refine Cor.run (noC_good _) (noHx_good _) hm ?_
          simp +contextual -implicitDefEqProofs (maxSteps := 2000000) only [hfl, ruB, rh_no, Int.reduceLT, Int.reduceLE, Int.reduceAdd, Int.reduceSub, Int.reduceMul, Int.reduceNeg, Int.reduceToNat, Int.reduceEq, Int.reduceNe, Int.reduceTDiv, Int.reduceTMod, implies_true, putL, appN, appX, appC, Eng.Fi, reduceCtorEq, exists_eq_left', exists_eq_left, if_true, if_false, List.replicate, Nat.reduceAdd, Nat.reduceSub, Nat.reduceMul, Nat.reduceLeDiff, Nat.reduceLT, Nat.reduceEqDiff]
    · have h0' := eq_false h0
      refine c4.fok (by simp only [subs, sub1, free_Vs]) (Cor.run (addC_good g_rScansErr (addC_good g_scanned6 (addC_good g_awake (noC_good _)))) (noHx_good _) hm ?_)
      simp +contextual -implicitDefEqProofs (maxSteps := 2000000) only [bg_eq, a4, x_awake, y1, y2, h0', not_true_eq_false, not_false_eq_true, ruB, rh_no, Int.reduceLT, Int.reduceLE, Int.reduceAdd, Int.reduceSub, Int.reduceMul, Int.reduceNeg, Int.reduceToNat, Int.reduceEq, Int.reduceNe, Int.reduceTDiv, Int.reduceTMod, implies_true, putL, appN, appX, appC, Eng.Fi, reduceCtorEq, exists_eq_left', exists_eq_left, if_true, if_false, List.replicate, Nat.reduceAdd, Nat.reduceSub, Nat.reduceMul, Nat.reduceLeDiff, Nat.reduceLT, Nat.reduceEqDiff]
  · have hs' : scV l = false := by simpa using hs
    rw [hs'] at y1
    refine c4.fok (by simp only [subs, sub1, free_Vs]) (Cor.run (addC_good g_scanned6 (addC_good g_awake (noC_good _))) (noHx_good _) hm ?_)
    simp +contextual -implicitDefEqProofs (maxSteps := 2000000) only [bg_eq, a4, x_awake, y1, not_false_eq_true, ruB, rh_no, Int.reduceLT, Int.reduceLE, Int.reduceAdd, Int.reduceSub, Int.reduceMul, Int.reduceNeg, Int.reduceToNat, Int.reduceEq, Int.reduceNe, Int.reduceTDiv, Int.reduceTMod, implies_true, putL, appN, appX, appC, Eng.Fi, reduceCtorEq, exists_eq_left', exists_eq_left, if_true, if_false, List.replicate, Nat.reduceAdd, Nat.reduceSub, Nat.reduceMul, Nat.reduceLeDiff, Nat.reduceLT, Nat.reduceEqDiff]
end Wa
