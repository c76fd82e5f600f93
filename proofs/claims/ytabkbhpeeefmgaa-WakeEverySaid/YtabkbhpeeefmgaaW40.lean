import Derived.Test.YtabkbhpeeefmgaaEngS9
import Derived.Test.YtabkbhpeeefmgaaW39
open Go Go.Proofs Eng
set_option maxRecDepth 100000
set_option linter.unusedSimpArgs false
set_option linter.unusedVariables false
def a12 : AC := .seq (.ops false [] [⟨some 3, .box 50 6 1 true, [.t 0], none⟩, ⟨some 4, .box 52 6 1 true, [.t 1], none⟩, ⟨some 6, .p (.mov), [.c (.bool false)], none⟩]) (.seq (.seq (.ops false [] [⟨some 28, .call 13, [], none⟩, ⟨some 29, .p (.notB), [.t 28], none⟩]) (.cond (.t 29) (.seq (.ops false [] [⟨some 6, .p (.mov), [.c (.bool false)], none⟩]) (.ret)) (.skip))) (.seq (.seq (.ops false [] [⟨some 30, .load 6 true, [.t 3], none⟩, ⟨some 31, .load 6 true, [.t 4], none⟩, ⟨some 32, .call 68, [.t 30, .t 31], none⟩, ⟨some 33, .p (.binI .neq), [.t 32, .c (.int .i64 0)], none⟩, ⟨some 34, .p (.mov), [.t 33], none⟩, ⟨some 35, .p (.mov), [.t 2], some (34, false)⟩, ⟨some 36, .p (.lenS), [.t 35], some (34, false)⟩, ⟨some 37, .p (.binI .eql), [.t 36, .c (.int .i64 0)], some (34, false)⟩, ⟨some 38, .p (.pick), [.t 34, .c (.bool true), .t 37], none⟩, ⟨some 39, .p (.mov), [.t 38], none⟩, ⟨some 40, .p (.mov), [.t 2], some (39, false)⟩, ⟨some 41, .p (.lenS), [.t 40], some (39, false)⟩, ⟨some 42, .p (.binI .gtr), [.t 41, .c (.int .i64 20)], some (39, false)⟩, ⟨some 43, .p (.pick), [.t 39, .c (.bool true), .t 42], none⟩]) (.cond (.t 43) (.seq (.ops false [] [⟨some 6, .p (.mov), [.c (.bool true)], none⟩]) (.ret)) (.skip))) (.seq (.ops false [] [⟨some 44, .p (.mov), [.t 2], none⟩, ⟨some 45, .p (.lenS), [.t 44], none⟩, ⟨some 46, .p (.binI .sub), [.t 45, .c (.int .i64 1)], none⟩, ⟨some 7, .p (.mov), [.t 46], none⟩]) (.seq (.ops true [] [⟨some 48, .load 6 true, [.t 3], none⟩, ⟨some 49, .load 6 true, [.t 4], none⟩, ⟨some 50, .p (.mov), [.t 2], none⟩, ⟨some 51, .call 22, [.t 50], none⟩, ⟨some 52, .call 67, [.t 48, .t 49, .t 51], none⟩, ⟨some 47, .p (.mov), [.t 52], none⟩, ⟨some 53, .p (.ext 0), [.t 47], none⟩, ⟨some 54, .p (.ext 1), [.t 47], none⟩, ⟨some 8, .p (.mov), [.t 53], none⟩, ⟨some 9, .p (.mov), [.t 54], none⟩]) (.seq (.seq (.ops false [] [⟨some 10, .p (.mov), [.c (.int .i64 0)], none⟩]) (.block 0 (.loop (.seq (.seq (.ops false [] [⟨some 55, .p (.mov), [.t 10], none⟩, ⟨some 56, .p (.mov), [.t 2], none⟩, ⟨some 57, .p (.lenS), [.t 56], none⟩, ⟨some 58, .p (.binI .lss), [.t 55, .t 57], none⟩, ⟨some 59, .p (.mov), [.t 58], none⟩, ⟨some 60, .p (.mov), [.t 9], some (59, true)⟩, ⟨some 61, .p (.binI .eql), [.t 60, .c (.int .i64 0)], some (59, true)⟩, ⟨some 62, .p (.pick), [.t 59, .t 61, .c (.bool false)], none⟩]) (.cond (.t 62) (.skip) (.exit 0))) (.seq (.block 1 (.seq (.ops false [] [⟨some 66, .load 6 true, [.t 3], none⟩, ⟨some 67, .load 6 true, [.t 4], none⟩, ⟨some 68, .p (.mov), [.t 10], none⟩, ⟨some 69, .call 25, [.t 66, .t 67, .t 68], none⟩, ⟨some 65, .p (.mov), [.t 69], none⟩, ⟨some 70, .p (.ext 0), [.t 65], none⟩, ⟨some 71, .p (.ext 1), [.t 65], none⟩, ⟨some 11, .alloc 50 6 [.agg [.int .i64 0, .int .i64 0, .int .i64 0, .int .i64 0, .int .i64 0, .int .i64 0]], [], none⟩, ⟨none, .store 6 true, [.t 11, .t 70], none⟩, ⟨some 12, .p (.mov), [.t 71], none⟩]) (.seq (.ops true [] [⟨some 72, .p (.mov), [.t 12], none⟩, ⟨some 73, .p (.binI .neq), [.t 72, .c (.int .i64 0)], none⟩, ⟨some 74, .p (.mov), [.t 73], none⟩, ⟨some 75, .load 6 true, [.t 11], some (74, false)⟩, ⟨some 76, .p (.mov), [.t 2], some (74, false)⟩, ⟨some 77, .p (.mov), [.t 10], some (74, false)⟩, ⟨some 78, .p (.iaddrS 3), [.t 76, .t 77], some (74, false)⟩, ⟨some 79, .load 3 true, [.t 78], some (74, false)⟩, ⟨some 80, .call 70, [.t 75, .t 79], some (74, false)⟩, ⟨some 81, .p (.notB), [.t 80], some (74, false)⟩, ⟨some 82, .p (.pick), [.t 74, .c (.bool true), .t 81], none⟩]) (.cond (.t 82) (.seq (.ops false [] [⟨some 6, .p (.mov), [.c (.bool false)], none⟩]) (.ret)) (.skip))))) (.ops false [] [⟨some 63, .p (.mov), [.t 10], none⟩, ⟨some 64, .p (.binI .add), [.t 63, .c (.int .i64 1)], none⟩, ⟨some 10, .p (.mov), [.t 64], none⟩])))))) (.seq (.ops false [] [⟨some 84, .load 6 true, [.t 3], none⟩, ⟨some 85, .load 6 true, [.t 4], none⟩, ⟨some 86, .p (.mov), [.t 7], none⟩, ⟨some 87, .p (.binI .quo), [.t 86, .c (.int .i64 2)], none⟩, ⟨some 88, .call 25, [.t 84, .t 85, .t 87], none⟩, ⟨some 83, .p (.mov), [.t 88], none⟩, ⟨some 89, .p (.ext 0), [.t 83], none⟩, ⟨some 90, .p (.ext 1), [.t 83], none⟩, ⟨some 13, .alloc 50 6 [.agg [.int .i64 0, .int .i64 0, .int .i64 0, .int .i64 0, .int .i64 0, .int .i64 0]], [], none⟩, ⟨none, .store 6 true, [.t 13, .t 89], none⟩, ⟨some 14, .p (.mov), [.t 90], none⟩]) (.seq (.ops false [] [⟨some 92, .load 6 true, [.t 3], none⟩, ⟨some 93, .load 6 true, [.t 4], none⟩, ⟨some 94, .p (.mov), [.t 7], none⟩, ⟨some 95, .call 25, [.t 92, .t 93, .t 94], none⟩, ⟨some 91, .p (.mov), [.t 95], none⟩, ⟨some 96, .p (.ext 0), [.t 91], none⟩, ⟨some 97, .p (.ext 1), [.t 91], none⟩, ⟨some 15, .alloc 50 6 [.agg [.int .i64 0, .int .i64 0, .int .i64 0, .int .i64 0, .int .i64 0, .int .i64 0]], [], none⟩, ⟨none, .store 6 true, [.t 15, .t 96], none⟩, ⟨some 16, .p (.mov), [.t 97], none⟩]) (.seq (.seq (.ops false [] [⟨some 98, .p (.mov), [.t 14], none⟩, ⟨some 99, .p (.binI .neq), [.t 98, .c (.int .i64 0)], none⟩, ⟨some 100, .p (.mov), [.t 99], none⟩, ⟨some 101, .p (.mov), [.t 16], some (100, false)⟩, ⟨some 102, .p (.binI .neq), [.t 101, .c (.int .i64 0)], some (100, false)⟩, ⟨some 103, .p (.pick), [.t 100, .c (.bool true), .t 102], none⟩]) (.cond (.t 103) (.seq (.ops false [] [⟨some 6, .p (.mov), [.c (.bool false)], none⟩]) (.ret)) (.skip))) (.seq (.seq (.ops false [] [⟨some 104, .load 6 true, [.t 13], none⟩, ⟨some 105, .call 27, [.t 104], none⟩, ⟨some 106, .p (.binI .eql), [.t 105, .c (.int .i64 0)], none⟩]) (.cond (.t 106) (.seq (.ops false [] [⟨some 108, .load 6 true, [.t 13], none⟩, ⟨some 109, .load 6 true, [.t 4], none⟩, ⟨some 110, .p (.mov), [.t 7], none⟩, ⟨some 111, .p (.mov), [.t 7], none⟩, ⟨some 112, .p (.binI .quo), [.t 111, .c (.int .i64 2)], none⟩, ⟨some 113, .p (.binI .sub), [.t 110, .t 112], none⟩, ⟨some 114, .call 25, [.t 108, .t 109, .t 113], none⟩, ⟨some 107, .p (.mov), [.t 114], none⟩, ⟨some 115, .p (.ext 0), [.t 107], none⟩, ⟨some 116, .p (.ext 1), [.t 107], none⟩, ⟨some 17, .alloc 50 6 [.agg [.int .i64 0, .int .i64 0, .int .i64 0, .int .i64 0, .int .i64 0, .int .i64 0]], [], none⟩, ⟨none, .store 6 true, [.t 17, .t 115], none⟩, ⟨some 18, .p (.mov), [.t 116], none⟩]) (.seq (.ops false [] [⟨some 117, .p (.mov), [.t 18], none⟩, ⟨some 118, .p (.binI .neq), [.t 117, .c (.int .i64 0)], none⟩, ⟨some 119, .p (.mov), [.t 118], none⟩, ⟨some 120, .load 6 true, [.t 17], some (119, false)⟩, ⟨some 121, .load 6 true, [.t 15], some (119, false)⟩, ⟨some 122, .p (.eqa true [.i, .i, .i, .i, .i, .i]), [.t 120, .t 121], some (119, false)⟩, ⟨some 123, .p (.pick), [.t 119, .c (.bool true), .t 122], none⟩]) (.cond (.t 123) (.seq (.ops false [] [⟨some 6, .p (.mov), [.c (.bool false)], none⟩]) (.ret)) (.skip)))) (.skip))) (.seq (.ops false [] [⟨some 124, .p (.faddr 0), [.t 3], none⟩, ⟨some 125, .p (.faddr 0), [.t 124], none⟩, ⟨some 126, .load 1 false, [.t 125], none⟩, ⟨some 127, .p (.faddr 2), [.t 3], none⟩, ⟨some 128, .p (.faddr 0), [.t 127], none⟩, ⟨some 129, .load 1 false, [.t 128], none⟩, ⟨some 130, .p (.faddr 4), [.t 3], none⟩, ⟨some 131, .p (.faddr 0), [.t 130], none⟩, ⟨some 132, .load 1 false, [.t 131], none⟩, ⟨some 133, .call 71, [.t 126, .t 129, .t 132], none⟩, ⟨some 134, .bsl 46 3, [.t 133], none⟩, ⟨some 19, .p (.mov), [.t 134], none⟩]) (.seq (.ops false [] [⟨some 135, .p (.faddr 0), [.t 3], none⟩, ⟨some 136, .p (.faddr 1), [.t 135], none⟩, ⟨some 137, .load 1 false, [.t 136], none⟩, ⟨some 138, .p (.faddr 2), [.t 3], none⟩, ⟨some 139, .p (.faddr 1), [.t 138], none⟩, ⟨some 140, .load 1 false, [.t 139], none⟩, ⟨some 141, .p (.faddr 4), [.t 3], none⟩, ⟨some 142, .p (.faddr 1), [.t 141], none⟩, ⟨some 143, .load 1 false, [.t 142], none⟩, ⟨some 144, .call 71, [.t 137, .t 140, .t 143], none⟩, ⟨some 145, .bsl 46 3, [.t 144], none⟩, ⟨some 20, .p (.mov), [.t 145], none⟩]) (.seq (.seq (.ops false [] [⟨some 21, .p (.mov), [.c (.int .i64 0)], none⟩]) (.block 2 (.loop (.seq (.seq (.ops false [] [⟨some 146, .p (.mov), [.t 21], none⟩, ⟨some 147, .p (.mov), [.t 7], none⟩, ⟨some 148, .p (.binI .lss), [.t 146, .t 147], none⟩]) (.cond (.t 148) (.skip) (.exit 2))) (.seq (.block 3 (.seq (.ops true [] [⟨some 151, .p (.mov), [.t 19], none⟩, ⟨some 152, .p (.mov), [.t 19], none⟩, ⟨some 153, .p (.mov), [.t 21], none⟩, ⟨some 154, .p (.iaddrS 3), [.t 152, .t 153], none⟩, ⟨some 155, .p (.faddr 0), [.t 154], none⟩, ⟨some 156, .p (.faddr 0), [.t 155], none⟩, ⟨some 157, .load 1 false, [.t 156], none⟩, ⟨some 158, .p (.faddr 0), [.t 4], none⟩, ⟨some 159, .p (.faddr 0), [.t 158], none⟩, ⟨some 160, .load 1 false, [.t 159], none⟩, ⟨some 161, .p (.binI .add), [.t 157, .t 160], none⟩, ⟨some 162, .p (.mov), [.t 19], none⟩, ⟨some 163, .p (.mov), [.t 21], none⟩, ⟨some 164, .p (.iaddrS 3), [.t 162, .t 163], none⟩, ⟨some 165, .p (.faddr 0), [.t 164], none⟩, ⟨some 166, .p (.faddr 1), [.t 165], none⟩, ⟨some 167, .load 1 false, [.t 166], none⟩, ⟨some 168, .p (.faddr 2), [.t 4], none⟩, ⟨some 169, .p (.faddr 1), [.t 168], none⟩, ⟨some 170, .load 1 false, [.t 169], none⟩, ⟨some 171, .p (.binI .sub), [.t 167, .t 170], none⟩, ⟨some 172, .p (.mm true), [.c (.int .i64 0), .t 171], none⟩, ⟨some 173, .p (.mov), [.t 19], none⟩, ⟨some 174, .p (.mov), [.t 21], none⟩, ⟨some 175, .p (.iaddrS 3), [.t 173, .t 174], none⟩, ⟨some 176, .p (.faddr 2), [.t 175], none⟩, ⟨some 177, .load 1 false, [.t 176], none⟩, ⟨some 178, .p (.faddr 4), [.t 4], none⟩, ⟨some 179, .p (.faddr 1), [.t 178], none⟩, ⟨some 180, .load 1 false, [.t 179], none⟩, ⟨some 181, .p (.binI .sub), [.t 177, .t 180], none⟩, ⟨some 182, .p (.mm true), [.c (.int .i64 0), .t 181], none⟩, ⟨some 183, .call 71, [.t 161, .t 172, .t 182], none⟩, ⟨some 184, .fbs 3, [.t 183], none⟩, ⟨some 185, .app 46 3 24, [.t 151, .t 184], none⟩, ⟨some 19, .p (.mov), [.t 185], none⟩]) (.ops true [] [⟨some 186, .p (.mov), [.t 20], none⟩, ⟨some 187, .p (.mov), [.t 20], none⟩, ⟨some 188, .p (.mov), [.t 21], none⟩, ⟨some 189, .p (.iaddrS 3), [.t 187, .t 188], none⟩, ⟨some 190, .p (.faddr 0), [.t 189], none⟩, ⟨some 191, .p (.faddr 0), [.t 190], none⟩, ⟨some 192, .load 1 false, [.t 191], none⟩, ⟨some 193, .p (.faddr 0), [.t 4], none⟩, ⟨some 194, .p (.faddr 1), [.t 193], none⟩, ⟨some 195, .load 1 false, [.t 194], none⟩, ⟨some 196, .p (.binI .add), [.t 192, .t 195], none⟩, ⟨some 197, .p (.mov), [.t 20], none⟩, ⟨some 198, .p (.mov), [.t 21], none⟩, ⟨some 199, .p (.iaddrS 3), [.t 197, .t 198], none⟩, ⟨some 200, .p (.faddr 0), [.t 199], none⟩, ⟨some 201, .p (.faddr 1), [.t 200], none⟩, ⟨some 202, .load 1 false, [.t 201], none⟩, ⟨some 203, .p (.faddr 2), [.t 4], none⟩, ⟨some 204, .p (.faddr 0), [.t 203], none⟩, ⟨some 205, .load 1 false, [.t 204], none⟩, ⟨some 206, .p (.binI .sub), [.t 202, .t 205], none⟩, ⟨some 207, .p (.mm true), [.c (.int .i64 0), .t 206], none⟩, ⟨some 208, .p (.mov), [.t 20], none⟩, ⟨some 209, .p (.mov), [.t 21], none⟩, ⟨some 210, .p (.iaddrS 3), [.t 208, .t 209], none⟩, ⟨some 211, .p (.faddr 2), [.t 210], none⟩, ⟨some 212, .load 1 false, [.t 211], none⟩, ⟨some 213, .p (.faddr 4), [.t 4], none⟩, ⟨some 214, .p (.faddr 0), [.t 213], none⟩, ⟨some 215, .load 1 false, [.t 214], none⟩, ⟨some 216, .p (.binI .sub), [.t 212, .t 215], none⟩, ⟨some 217, .p (.mm true), [.c (.int .i64 0), .t 216], none⟩, ⟨some 218, .call 71, [.t 196, .t 207, .t 217], none⟩, ⟨some 219, .fbs 3, [.t 218], none⟩, ⟨some 220, .app 46 3 24, [.t 186, .t 219], none⟩, ⟨some 20, .p (.mov), [.t 220], none⟩]))) (.ops false [] [⟨some 149, .p (.mov), [.t 21], none⟩, ⟨some 150, .p (.binI .add), [.t 149, .c (.int .i64 1)], none⟩, ⟨some 21, .p (.mov), [.t 150], none⟩])))))) (.seq (.ops true [] [⟨some 222, .load 6 true, [.t 3], none⟩, ⟨some 223, .load 6 true, [.t 4], none⟩, ⟨some 224, .p (.mov), [.t 19], none⟩, ⟨some 225, .call 22, [.t 224], none⟩, ⟨some 226, .call 67, [.t 222, .t 223, .t 225], none⟩, ⟨some 221, .p (.mov), [.t 226], none⟩, ⟨some 227, .p (.ext 0), [.t 221], none⟩, ⟨some 228, .p (.ext 1), [.t 221], none⟩, ⟨some 22, .p (.mov), [.t 227], none⟩, ⟨some 23, .p (.mov), [.t 228], none⟩]) (.seq (.ops true [] [⟨some 230, .load 6 true, [.t 3], none⟩, ⟨some 231, .load 6 true, [.t 4], none⟩, ⟨some 232, .p (.mov), [.t 20], none⟩, ⟨some 233, .call 22, [.t 232], none⟩, ⟨some 234, .call 67, [.t 230, .t 231, .t 233], none⟩, ⟨some 229, .p (.mov), [.t 234], none⟩, ⟨some 235, .p (.ext 0), [.t 229], none⟩, ⟨some 236, .p (.ext 1), [.t 229], none⟩, ⟨some 24, .p (.mov), [.t 235], none⟩, ⟨some 25, .p (.mov), [.t 236], none⟩]) (.seq (.ops true [(3, 8), (7, 8), (3, 9), (7, 9), (8, 9), (7, 10)] [⟨some 237, .p (.mov), [.t 19], none⟩, ⟨some 238, .p (.mov), [.t 7], none⟩, ⟨some 239, .p (.iaddrS 3), [.t 237, .t 238], none⟩, ⟨some 240, .load 3 true, [.t 239], none⟩, ⟨some 241, .p (.mov), [.t 20], none⟩, ⟨some 242, .p (.mov), [.t 7], none⟩, ⟨some 243, .p (.iaddrS 3), [.t 241, .t 242], none⟩, ⟨some 244, .load 3 true, [.t 243], none⟩, ⟨some 26, .alloc 46 3 [.agg [.int .i64 0, .int .i64 0, .int .i64 0]], [], none⟩, ⟨some 27, .alloc 46 3 [.agg [.int .i64 0, .int .i64 0, .int .i64 0]], [], none⟩, ⟨none, .store 3 true, [.t 26, .t 240], none⟩, ⟨none, .store 3 true, [.t 27, .t 244], none⟩]) (.seq (.ops false [] [⟨some 245, .p (.mov), [.t 23], none⟩, ⟨some 246, .p (.binI .eql), [.t 245, .c (.int .i64 0)], none⟩, ⟨some 247, .p (.mov), [.t 246], none⟩, ⟨some 248, .p (.mov), [.t 22], some (247, true)⟩, ⟨some 249, .p (.binI .eql), [.t 248, .c (.int .i64 0)], some (247, true)⟩, ⟨some 250, .p (.pick), [.t 247, .t 249, .c (.bool false)], none⟩, ⟨some 251, .p (.mov), [.t 250], none⟩, ⟨some 252, .p (.mov), [.t 25], some (251, true)⟩, ⟨some 253, .p (.binI .eql), [.t 252, .c (.int .i64 0)], some (251, true)⟩, ⟨some 254, .p (.pick), [.t 251, .t 253, .c (.bool false)], none⟩, ⟨some 255, .p (.mov), [.t 254], none⟩, ⟨some 256, .p (.mov), [.t 24], some (255, true)⟩, ⟨some 257, .p (.binI .eql), [.t 256, .c (.int .i64 0)], some (255, true)⟩, ⟨some 258, .p (.pick), [.t 255, .t 257, .c (.bool false)], none⟩, ⟨some 259, .p (.mov), [.t 258], none⟩, ⟨some 260, .load 6 true, [.t 15], some (259, true)⟩, ⟨some 261, .p (.faddr 0), [.t 26], some (259, true)⟩, ⟨some 262, .p (.faddr 0), [.t 261], some (259, true)⟩, ⟨some 263, .load 1 false, [.t 262], some (259, true)⟩, ⟨some 264, .p (.faddr 0), [.t 27], some (259, true)⟩, ⟨some 265, .p (.faddr 0), [.t 264], some (259, true)⟩, ⟨some 266, .load 1 false, [.t 265], some (259, true)⟩, ⟨some 267, .p (.build [.int .i64 0, .int .i64 0] [(0, 1), (1, 1)]), [.t 263, .t 266], some (259, true)⟩, ⟨some 268, .p (.faddr 0), [.t 26], some (259, true)⟩, ⟨some 269, .p (.faddr 1), [.t 268], some (259, true)⟩, ⟨some 270, .load 1 false, [.t 269], some (259, true)⟩, ⟨some 271, .p (.faddr 0), [.t 27], some (259, true)⟩, ⟨some 272, .p (.faddr 1), [.t 271], some (259, true)⟩, ⟨some 273, .load 1 false, [.t 272], some (259, true)⟩, ⟨some 274, .p (.build [.int .i64 0, .int .i64 0] [(0, 1), (1, 1)]), [.t 270, .t 273], some (259, true)⟩, ⟨some 275, .p (.faddr 2), [.t 26], some (259, true)⟩, ⟨some 276, .load 1 false, [.t 275], some (259, true)⟩, ⟨some 277, .p (.faddr 2), [.t 27], some (259, true)⟩, ⟨some 278, .load 1 false, [.t 277], some (259, true)⟩, ⟨some 279, .p (.build [.int .i64 0, .int .i64 0] [(0, 1), (1, 1)]), [.t 276, .t 278], some (259, true)⟩, ⟨some 280, .p (.build [.int .i64 0, .int .i64 0, .int .i64 0, .int .i64 0, .int .i64 0, .int .i64 0] [(0, 2), (2, 2), (4, 2)]), [.t 267, .t 274, .t 279], some (259, true)⟩, ⟨some 281, .p (.eqa false [.i, .i, .i, .i, .i, .i]), [.t 260, .t 280], some (259, true)⟩, ⟨some 282, .p (.pick), [.t 259, .t 281, .c (.bool false)], none⟩, ⟨some 6, .p (.mov), [.t 282], none⟩]) (.ret)))))))))))))))))
theorem c12 : FnC Try.prog 12 283 a12 [.tmp 6] := ⟨Try.call12, _, _, Try.func12, rfl, by kernel_rfl, by kernel_rfl, rfl⟩
namespace Wa
def S_w1 (b d : Bx) (l : List Vo) (er : Int) (k : Nat) : AState := ⟨[.any, .any, .vs (l.map eVo), .vp [eBx b] 0 0, .vp [eBx d] 0 0, .any, .any, I ((l.length - 1 : Nat) : Int), .any, I er, I k, .any, .any, .any, .any, .any, .any, .any, .any, .any, .any, .any, .any, .any, .any, .any, .any, .any, .any, .any, .any, .any, .any, .any, .any, .any, .any, .any, .any, .any, .any, .any, .any, .any, .any, .any, .any, .any, .any, .any, .any, .any, .any, .any, .any, .any, .any, .any, .any, .any, .any, .any, .any, .any, .any, .any, .any, .any, .any, .any, .any, .any, .any, .any, .any, .any, .any, .any, .any, .any, .any, .any, .any, .any, .any, .any, .any, .any, .any, .any, .any, .any, .any, .any, .any, .any, .any, .any, .any, .any, .any, .any, .any, .any, .any, .any, .any, .any, .any, .any, .any, .any, .any, .any, .any, .any, .any, .any, .any, .any, .any, .any, .any, .any, .any, .any, .any, .any, .any, .any, .any, .any, .any, .any, .any, .any, .any, .any, .any, .any, .any, .any, .any, .any, .any, .any, .any, .any, .any, .any, .any, .any, .any, .any, .any, .any, .any, .any, .any, .any, .any, .any, .any, .any, .any, .any, .any, .any, .any, .any, .any, .any, .any, .any, .any, .any, .any, .any, .any, .any, .any, .any, .any, .any, .any, .any, .any, .any, .any, .any, .any, .any, .any, .any, .any, .any, .any, .any, .any, .any, .any, .any, .any, .any, .any, .any, .any, .any, .any, .any, .any, .any, .any, .any, .any, .any, .any, .any, .any, .any, .any, .any, .any, .any, .any, .any, .any, .any, .any, .any, .any, .any, .any, .any, .any, .any, .any, .any, .any, .any, .any, .any, .any, .any, .any, .any, .any, .any, .any, .any, .any, .any, .any, .any, .any, .any, .any, .any, .any, .any, .any, .any, .any, .any, .any, .any, .any, .any, .any, .any, .any, .any, .any, .any, .any, .any, .any, .any, .any, .any, .any, .any, .any], [], 0⟩
def S_w2 (b d : Bx) (m : Nat) (x : Bx) (q : Nat × List Vo × List Vo) : AState := ⟨[.any, .any, .any, .vp [eBx b] 0 0, .vp [eBx d] 0 0, .any, .any, I m, .any, .any, .any, .any, .any, .any, .any, .vp [eBx x] 0 0, .any, .any, .any, .slice 0 3 0 q.2.1.length, .slice 1 3 0 q.2.2.length, I q.1, .any, .any, .any, .any, .any, .any, .any, .any, .any, .any, .any, .any, .any, .any, .any, .any, .any, .any, .any, .any, .any, .any, .any, .any, .any, .any, .any, .any, .any, .any, .any, .any, .any, .any, .any, .any, .any, .any, .any, .any, .any, .any, .any, .any, .any, .any, .any, .any, .any, .any, .any, .any, .any, .any, .any, .any, .any, .any, .any, .any, .any, .any, .any, .any, .any, .any, .any, .any, .any, .any, .any, .any, .any, .any, .any, .any, .any, .any, .any, .any, .any, .any, .any, .any, .any, .any, .any, .any, .any, .any, .any, .any, .any, .any, .any, .any, .any, .any, .any, .any, .any, .any, .any, .any, .any, .any, .any, .any, .any, .any, .any, .any, .any, .any, .any, .any, .any, .any, .any, .any, .any, .any, .any, .any, .any, .any, .any, .any, .any, .any, .any, .any, .any, .any, .any, .any, .any, .any, .any, .any, .any, .any, .any, .any, .any, .any, .any, .any, .any, .any, .any, .any, .any, .any, .any, .any, .any, .any, .any, .any, .any, .any, .any, .any, .any, .any, .any, .any, .any, .any, .any, .any, .any, .any, .any, .any, .any, .any, .any, .any, .any, .any, .any, .any, .any, .any, .any, .any, .any, .any, .any, .any, .any, .any, .any, .any, .any, .any, .any, .any, .any, .any, .any, .any, .any, .any, .any, .any, .any, .any, .any, .any, .any, .any, .any, .any, .any, .any, .any, .any, .any, .any, .any, .any, .any, .any, .any, .any, .any, .any, .any, .any, .any, .any, .any, .any, .any, .any, .any, .any, .any, .any, .any, .any, .any, .any, .any, .any, .any, .any, .any, .any, .any, .any, .any, .any, .any, .any, .any, .any, .any], [⟨1, 1, .rows 46 3 (q.2.2.map eVo)⟩, ⟨0, 0, .rows 46 3 (q.2.1.map eVo)⟩], 2⟩
def S_w3 (b d : Bx) (m : Nat) (x : Bx) (q : Nat × List Vo × List Vo) : AState := ⟨[.any, .any, .any, .vp [eBx b] 0 0, .vp [eBx d] 0 0, .any, .any, I m, .any, .any, .any, .any, .any, .any, .any, .vp [eBx x] 0 0, .any, .any, .any, .vs (q.2.1.map eVo), .vs (q.2.2.map eVo), I q.1, .any, .any, .any, .any, .any, .any, .any, .any, .any, .any, .any, .any, .any, .any, .any, .any, .any, .any, .any, .any, .any, .any, .any, .any, .any, .any, .any, .any, .any, .any, .any, .any, .any, .any, .any, .any, .any, .any, .any, .any, .any, .any, .any, .any, .any, .any, .any, .any, .any, .any, .any, .any, .any, .any, .any, .any, .any, .any, .any, .any, .any, .any, .any, .any, .any, .any, .any, .any, .any, .any, .any, .any, .any, .any, .any, .any, .any, .any, .any, .any, .any, .any, .any, .any, .any, .any, .any, .any, .any, .any, .any, .any, .any, .any, .any, .any, .any, .any, .any, .any, .any, .any, .any, .any, .any, .any, .any, .any, .any, .any, .any, .any, .any, .any, .any, .any, .any, .any, .any, .any, .any, .any, .any, .any, .any, .any, .any, .any, .any, .any, .any, .any, .any, .any, .any, .any, .any, .any, .any, .any, .any, .any, .any, .any, .any, .any, .any, .any, .any, .any, .any, .any, .any, .any, .any, .any, .any, .any, .any, .any, .any, .any, .any, .any, .any, .any, .any, .any, .any, .any, .any, .any, .any, .any, .any, .any, .any, .any, .any, .any, .any, .any, .any, .any, .any, .any, .any, .any, .any, .any, .any, .any, .any, .any, .any, .any, .any, .any, .any, .any, .any, .any, .any, .any, .any, .any, .any, .any, .any, .any, .any, .any, .any, .any, .any, .any, .any, .any, .any, .any, .any, .any, .any, .any, .any, .any, .any, .any, .any, .any, .any, .any, .any, .any, .any, .any, .any, .any, .any, .any, .any, .any, .any, .any, .any, .any, .any, .any, .any, .any, .any, .any, .any, .any, .any, .any, .any, .any, .any, .any, .any], [], 0⟩
def S_wx (b d : Bx) (m : Nat) (x : Bx) (q : Nat × List Vo × List Vo) : AState := if q.1 < m then S_w2 b d m x q else S_w3 b d m x q
theorem tk_ge (l : List Vo) : (l.map eVo).take (l.length + 1) = l.map eVo := by rw [List.take_of_length_le]; simp
set_option maxHeartbeats 8000000 in
theorem k_WakeEvery (b d : Bx) (l : List Vo) (hm0 : l.length ≤ maxLen) : FOk P 12 [eBx b, eBx d, .vs (l.map eVo)] (.bool true) := by
  have y3 := x_rMovesErr b d
  by_cases h0 : mvE b d = 0
  · have h0' := eq_true h0
    by_cases h1 : l.length = 0
    · have h1' : ((l.length : Int) = 0) = True := eq_true (by omega)
      refine c12.fok (by simp only [subs, sub1, free_Vo]) (Cor.run (addC_good g_rMovesErr (addC_good g_awake (noC_good _))) (noHx_good _) hm ?_)
      simp +contextual -implicitDefEqProofs (maxSteps := 2000000) only [bg_eq, a12, x_awake, y3, List.length_map, h0', h1', not_true_eq_false, not_false_eq_true, ruB, rh_no, Int.reduceLT, Int.reduceLE, Int.reduceAdd, Int.reduceSub, Int.reduceMul, Int.reduceNeg, Int.reduceToNat, Int.reduceEq, Int.reduceNe, Int.reduceTDiv, Int.reduceTMod, implies_true, putL, appN, appX, appC, Eng.Fi, reduceCtorEq, exists_eq_left', exists_eq_left, if_true, if_false, List.replicate, Nat.reduceAdd, Nat.reduceSub, Nat.reduceMul, Nat.reduceLeDiff, Nat.reduceLT, Nat.reduceEqDiff]
    · have h1' : ((l.length : Int) = 0) = False := eq_false (by omega)
      by_cases h2 : 20 < l.length
      · have h2' : ((20 : Int) < (l.length : Int)) = True := eq_true (by omega)
        refine c12.fok (by simp only [subs, sub1, free_Vo]) (Cor.run (addC_good g_rMovesErr (addC_good g_awake (noC_good _))) (noHx_good _) hm ?_)
        simp +contextual -implicitDefEqProofs (maxSteps := 2000000) only [bg_eq, a12, x_awake, y3, List.length_map, h0', h1', h2', not_true_eq_false, not_false_eq_true, ruB, rh_no, Int.reduceLT, Int.reduceLE, Int.reduceAdd, Int.reduceSub, Int.reduceMul, Int.reduceNeg, Int.reduceToNat, Int.reduceEq, Int.reduceNe, Int.reduceTDiv, Int.reduceTMod, implies_true, putL, appN, appX, appC, Eng.Fi, reduceCtorEq, exists_eq_left', exists_eq_left, if_true, if_false, List.replicate, Nat.reduceAdd, Nat.reduceSub, Nat.reduceMul, Nat.reduceLeDiff, Nat.reduceLT, Nat.reduceEqDiff]
      · have h2' : ((20 : Int) < (l.length : Int)) = False := eq_false (by omega)
        have hz := h0
        rw [mvE_first] at hz
        have z := firstE_zero hz
        have hbe := z (bxE b) (by simp)
        have hde := z (dfE d) (by simp)
        obtain ⟨b1, b2, b3, b4⟩ := bxE_z hbe
        obtain ⟨d1, d2, d3, d4⟩ := dfE_z hde
        have y1 := x_CopyVortices l (by simp only [eq_iff_iff, iff_true]; omega)
        have y2 := x_CheckPath b d l (by simp only [eq_iff_iff, iff_true]; omega)
        have wl : IntKind.wrap .i64 ((l.length : Int) - 1) = ((l.length - 1 : Nat) : Int) := by rw [wrap64 (by omega) (by omega)]; omega
        have hin := fun (hc : (cpV b d l).2 = 0) k (hk : k < l.length) => cp_in h0 (by omega) (by omega) hc hk
        have hba : ∀ k : Nat, k ≤ 20 → baE b d (k : Int) = 0 := fun k hk => by rw [baE, hbe, fE0, hde, fE0, unl_t 2 (by unfold tiR; omega)]; rfl
        generalize cpV b d l = cq at *
        refine c12.fok (by simp only [subs, sub1, free_Vo]) (Cor.run (addC_good g_CheckPath (addC_good g_CopyVortices (addC_good g_vortex6 (addC_good g_rBoxErr (addC_good g_rHolds (addC_good g_BoxAfter (addC_good g_rMovesErr (addC_good g_awake (noC_good _))))))))) (noHx_good _) hm ?_)
        simp +contextual -implicitDefEqProofs (maxSteps := 2000000) only [bg_eq, a12, x_awake, y1, y2, y3, List.length_map, h0', h1', h2', wl, not_true_eq_false, not_false_eq_true, ruB, rh_no, Int.reduceLT, Int.reduceLE, Int.reduceAdd, Int.reduceSub, Int.reduceMul, Int.reduceNeg, Int.reduceToNat, Int.reduceEq, Int.reduceNe, Int.reduceTDiv, Int.reduceTMod, implies_true, putL, appN, appX, appC, Eng.Fi, reduceCtorEq, exists_eq_left', exists_eq_left, if_true, if_false, List.replicate, Nat.reduceAdd, Nat.reduceSub, Nat.reduceMul, Nat.reduceLeDiff, Nat.reduceLT, Nat.reduceEqDiff]
        refine Cor.lp (addC_good g_CheckPath (addC_good g_CopyVortices (addC_good g_vortex6 (addC_good g_rBoxErr (addC_good g_rHolds (addC_good g_BoxAfter (addC_good g_rMovesErr (addC_good g_awake (noC_good _))))))))) (noHx_good _) hm (S_w1 b d l cq.2) (fun k => k ≤ l.length) (fun k => l.length - k) (a := 0) (Nat.zero_le _) (Wkn.to ⟨0, [], [0, 1], 0, [2, 3, 4, 7, 9, 10]⟩ rfl rfl (by simp [Wk.st, keepT, memN, Wk.fate, Wk.fate0, assoc, getE, Wk.hp, ABlk.sub, sub1, subs, S_w1, free_Vo])) ?_
        intro f k hk go
        by_cases hc : k < l.length ∧ cq.2 = 0
        · obtain ⟨hk1, hc2⟩ := hc
          have e1 : ((k : Int) < (l.length : Int)) = True := eq_true (by omega)
          have hc2' := eq_true hc2
          have e2 : (l.map eVo)[k]? = some (eVo l[k]) := get_e eVo l hk1
          have e3 : IntKind.wrap .i64 ((k : Int) + 1) = ((k + 1 : Nat) : Int) := suc_w (by omega)
          have ya := x_BoxAfter b d k
          rw [baV, if_pos (hba k (by omega))] at ya
          have hh := eq_true (hin hc2 k hk1)
          have yh := x_rHolds (afV b d k) l[k]
          generalize afV b d k = nb at *
          generalize l[k] = v at *
          simp +contextual -implicitDefEqProofs (maxSteps := 2000000) only [S_w1, e1, e2, e3, hc2', ya, yh, hh, List.length_map, not_true_eq_false, ruB, rh_no, Int.reduceLT, Int.reduceLE, Int.reduceAdd, Int.reduceSub, Int.reduceMul, Int.reduceNeg, Int.reduceToNat, Int.reduceEq, Int.reduceNe, Int.reduceTDiv, Int.reduceTMod, implies_true, putL, appN, appX, appC, Eng.Fi, reduceCtorEq, exists_eq_left', exists_eq_left, if_true, if_false, List.replicate, Nat.reduceAdd, Nat.reduceSub, Nat.reduceMul, Nat.reduceLeDiff, Nat.reduceLT, Nat.reduceEqDiff]
          exact go _ (k + 1) hk1 (by omega) (Wkn.to ⟨0, [], [], 0, [2, 3, 4, 7, 9, 10]⟩ rfl rfl (by simp only [Wk.st, keepT, sub1, subs, Wk.hp, ABlk.sub, S_w1, free_Vo]; try rfl))
        · have hcf : ((k : Int) < (l.length : Int) ∧ cq.2 = 0) = False := eq_false fun h => hc ⟨by omega, h.2⟩
          have hml : l.length - 1 ≤ 19 := by omega
          unfold S_w1
          generalize l.length - 1 = m at *
          have wd : IntKind.wrap .i64 ((m : Int).tdiv 2) = ((m / 2 : Nat) : Int) := by
            rw [Int.tdiv_eq_ediv_of_nonneg (by omega), wrap64 (by omega) (by omega)]; omega
          have ws : IntKind.wrap .i64 ((m : Int) - ((m / 2 : Nat) : Int)) = ((m - m / 2 : Nat) : Int) := by rw [wrap64 (by omega) (by omega)]; omega
          have yb := x_BoxAfter b d ((m / 2 : Nat) : Int)
          rw [baV, if_pos (hba (m / 2) (by omega))] at yb
          have yc := x_BoxAfter b d (m : Int)
          rw [baV, if_pos (hba m (by omega))] at yc
          have yd := x_BoxAfter (afV b d ((m / 2 : Nat) : Int)) d ((m - m / 2 : Nat) : Int)
          have ye := x_rBoxErr (afV b d ((m / 2 : Nat) : Int))
          have had := af_add (b := b) (s := ((m / 2 : Nat) : Int)) d1 (t := ((m - m / 2 : Nat) : Int)) (by omega)
          have hsm : ((m / 2 : Nat) : Int) + ((m - m / 2 : Nat) : Int) = (m : Int) := by omega
          rw [hsm] at had
          have hbb : bxE (afV b d ((m / 2 : Nat) : Int)) = 0 → baE (afV b d ((m / 2 : Nat) : Int)) d ((m - m / 2 : Nat) : Int) = 0 := fun h => by rw [baE, h, fE0, hde, fE0, unl_t 2 (by unfold tiR; omega)]; rfl
          rw [baV, had] at yd
          have hlast : afV b d (m : Int) = afV b d (m : Int) := rfl
          generalize hN : afV b d (m : Int) = last at *
          generalize afV b d ((m / 2 : Nat) : Int) = half at *
          have hl1 : [loC b] = loL b d 1 := by
            have := af_zero (d := d) b1
            show _ = [loC (afV b d 0)]
            rw [this]
          have hl2 : [hiC b] = hiL b d 1 := by
            have := af_zero (d := d) b1
            show _ = [hiC (afV b d 0)]
            rw [this]
          by_cases hq : bxE half = 0
          · have hq' := eq_true hq
            rw [if_pos (hbb hq)] at yd
            simp +contextual -implicitDefEqProofs (maxSteps := 2000000) only [hcf, wd, ws, yb, yc, yd, ye, hq', x_vortex6, List.length_map, not_true_eq_false, ruB, rh_no, Int.reduceLT, Int.reduceLE, Int.reduceAdd, Int.reduceSub, Int.reduceMul, Int.reduceNeg, Int.reduceToNat, Int.reduceEq, Int.reduceNe, Int.reduceTDiv, Int.reduceTMod, implies_true, putL, appN, appX, appC, Eng.Fi, reduceCtorEq, exists_eq_left', exists_eq_left, if_true, if_false, List.replicate, Nat.reduceAdd, Nat.reduceSub, Nat.reduceMul, Nat.reduceLeDiff, Nat.reduceLT, Nat.reduceEqDiff]
            refine Cor.lp (addC_good g_CheckPath (addC_good g_CopyVortices (addC_good g_vortex6 (addC_good g_rBoxErr (addC_good g_rHolds (addC_good g_BoxAfter (addC_good g_rMovesErr (addC_good g_awake (noC_good _))))))))) (noHx_good _) hm (S_wx b d m last) (fun q => q.1 ≤ m ∧ q.2.1 = loL b d (q.1 + 1) ∧ q.2.2 = hiL b d (q.1 + 1)) (fun q => m - q.1) (a := (0, [loC b], [hiC b])) ⟨Nat.zero_le _, by simp only [hl1], by simp only [hl2]⟩ (by
              unfold S_wx
              by_cases hm1 : 0 < m
              · rw [if_pos hm1]
                exact Wkn.to ⟨0, [(7, 1), (6, 0)], [2], 2, [3, 4, 7, 15, 19, 20, 21]⟩ rfl rfl (by simp [Wk.st, keepT, memN, Wk.fate, Wk.fate0, assoc, getE, Wk.hp, ABlk.sub, sub1, subs, S_w2, loC, hiC])
              · rw [if_neg hm1]
                exact Wkn.to ⟨0, [], [2, 6, 7], 0, [3, 4, 7, 15, 19, 20, 21]⟩ rfl rfl (by simp [Wk.st, keepT, memN, Wk.fate, Wk.fate0, assoc, getE, Wk.hp, ABlk.sub, sub1, subs, S_w3, loC, hiC])) ?_
            rintro f2 ⟨j, lo, hi⟩ ⟨hj, hlo, hhi⟩ go2
            simp only at hj hlo hhi
            have lol : lo.length = j + 1 := by rw [hlo, loL_len]
            have hil : hi.length = j + 1 := by rw [hhi, hiL_len]
            have g1 : (lo.map eVo)[j]? = some (eVo (loC (afV b d j))) := by rw [hlo]; exact (get_e eVo _ (by rw [loL_len]; omega)).trans (by rw [loL_get])
            have g2 : (hi.map eVo)[j]? = some (eVo (hiC (afV b d j))) := by rw [hhi]; exact (get_e eVo _ (by rw [hiL_len]; omega)).trans (by rw [hiL_get])
            have tl : (lo.map eVo).take lo.length = lo.map eVo := by rw [List.take_of_length_le]; simp
            have th : (hi.map eVo).take hi.length = hi.map eVo := by rw [List.take_of_length_le]; simp
            have fro := fun φ => free_Vo φ lo
            have frh := fun φ => free_Vo φ hi
            have q1 : (j < lo.length) = True := eq_true (by omega)
            have q2 : (j < hi.length) = True := eq_true (by omega)
            rcases Nat.lt_or_ge j m with hlt | hge
            · have u1 : ((j : Int) < (m : Int)) = True := eq_true (by omega)
              have u2 : IntKind.wrap .i64 ((j : Int) + 1) = ((j + 1 : Nat) : Int) := suc_w (by omega)
              have hn1 : lo ++ [⟨(afV b d j).yl + d.yl, max 0 ((afV b d j).zl - d.zh), max 0 ((afV b d j).sl - d.sh)⟩] = loL b d (j + 1 + 1) := by
                rw [loL_s, ← hlo, ← show (j : Int) + 1 = ((j + 1 : Nat) : Int) by omega, ← nx_af d1]; rfl
              have hn2 : hi ++ [⟨(afV b d j).yh + d.yh, max 0 ((afV b d j).zh - d.zl), max 0 ((afV b d j).sh - d.sl)⟩] = hiL b d (j + 1 + 1) := by
                rw [hiL_s, ← hhi, ← show (j : Int) + 1 = ((j + 1 : Nat) : Int) by omega, ← nx_af d1]; rfl
              have hbd := af_bd b1 d1 (k := (j : Int)) (by omega) (by omega)
              generalize afV b d (j : Int) = now at *
              unfold loC at g1
              unfold hiC at g2
              try simp only at g1 g2
              unfold nxB inR at hbd
              have hdd := d1
              unfold dfR inR at hdd
              have w1 : IntKind.wrap .i64 (now.yl + d.yl) = now.yl + d.yl := wrap64 (by omega) (by omega)
              have w2 : IntKind.wrap .i64 (now.yh + d.yh) = now.yh + d.yh := wrap64 (by omega) (by omega)
              have w3 : IntKind.wrap .i64 (now.zl - d.zh) = now.zl - d.zh := wrap64 (by omega) (by omega)
              have w4 : IntKind.wrap .i64 (now.zh - d.zl) = now.zh - d.zl := wrap64 (by omega) (by omega)
              have w5 : IntKind.wrap .i64 (now.sl - d.sh) = now.sl - d.sh := wrap64 (by omega) (by omega)
              have w6 : IntKind.wrap .i64 (now.sh - d.sl) = now.sh - d.sl := wrap64 (by omega) (by omega)
              have m1 : (lo.length + 1 ≤ maxLen) = True := mx (by omega)
              have m2 : ((lo.length + 1) * 24 ≤ 140737488355328) = True := by simp only [eq_iff_iff, iff_true]; omega
              have m3 : (hi.length + 1 ≤ maxLen) = True := mx (by omega)
              have m4 : ((hi.length + 1) * 24 ≤ 140737488355328) = True := by simp only [eq_iff_iff, iff_true]; omega
              rw [show S_wx b d m last (j, lo, hi) = S_w2 b d m last (j, lo, hi) from if_pos hlt]
              simp +contextual -implicitDefEqProofs (maxSteps := 2000000) only [S_w2, u1, q1, q2, Nat.le_refl, u2, g1, g2, w1, w2, w3, w4, w5, w6, m1, m2, m3, m4, tl, th, x_vortex6, List.length_map, rs_nil, rs_t, rs_f, ag_nils, ag_sl, ag_vs, ag_str, ag_ptr, ag_nilp, ag_vp, ag_fun, ruB, rh_no, Int.reduceLT, Int.reduceLE, Int.reduceAdd, Int.reduceSub, Int.reduceMul, Int.reduceNeg, Int.reduceToNat, Int.reduceEq, Int.reduceNe, Int.reduceTDiv, Int.reduceTMod, implies_true, putL, appN, appX, appC, Eng.Fi, reduceCtorEq, exists_eq_left', exists_eq_left, if_true, if_false, List.replicate, Nat.reduceAdd, Nat.reduceSub, Nat.reduceMul, Nat.reduceLeDiff, Nat.reduceLT, Nat.reduceEqDiff]
              have key := fun s' lo' hi' q1 q2 hw => go2 s' (j + 1, lo', hi') ⟨hlt, q1, q2⟩ (by simp only; omega) hw
              simp only [S_wx] at key
              by_cases hm1 : j + 1 < m
              · simp only [if_pos hm1] at key
                refine key _ _ _ hn1 hn2 ?_
                exact Wkn.to ⟨0, [(3, 1), (2, 0)], [], 2, [3, 4, 7, 15, 19, 20, 21]⟩ rfl rfl (by simp [Wk.st, keepT, memN, Wk.fate, Wk.fate0, assoc, getE, Wk.hp, ABlk.sub, sub1, subs, S_w2, subs_append, fro, frh])
              · simp only [if_neg hm1] at key
                refine key _ _ _ hn1 hn2 ?_
                exact Wkn.to ⟨0, [], [2, 3], 0, [3, 4, 7, 15, 19, 20, 21]⟩ rfl rfl (by simp [Wk.st, keepT, memN, Wk.fate, Wk.fate0, assoc, getE, Wk.hp, ABlk.sub, sub1, subs, S_w3, subs_append, fro, frh, List.take_append, tk_ge])
            · have u1 : ((j : Int) < (m : Int)) = False := eq_false (by omega)
              have ejm : j = m := by omega
              subst ejm
              rw [hN] at g1 g2
              unfold loC at g1
              unfold hiC at g2
              try simp only at g1 g2
              have v1 := x_CopyVortices lo (by simp only [eq_iff_iff, iff_true]; omega)
              have v2 := x_CopyVortices hi (by simp only [eq_iff_iff, iff_true]; omega)
              have v3 := x_CheckPath b d lo (by simp only [eq_iff_iff, iff_true]; omega)
              have v4 := x_CheckPath b d hi (by simp only [eq_iff_iff, iff_true]; omega)
              rw [show cpV b d lo = (0, 0) by rw [hlo]; exact cp_lo h0 j (by omega)] at v3
              rw [show cpV b d hi = (0, 0) by rw [hhi]; exact cp_hi h0 j (by omega)] at v4
              rw [show S_wx b d j last (j, lo, hi) = S_w3 b d j last (j, lo, hi) from if_neg (Nat.lt_irrefl j)]
              simp +contextual -implicitDefEqProofs (maxSteps := 2000000) only [S_w3, u1, q1, q2, Nat.le_refl, g1, g2, v1, v2, v3, v4, tl, th, List.length_map, rs_nil, rs_t, rs_f, ag_nils, ag_sl, ag_vs, ag_str, ag_ptr, ag_nilp, ag_vp, ag_fun, ruB, rh_no, Int.reduceLT, Int.reduceLE, Int.reduceAdd, Int.reduceSub, Int.reduceMul, Int.reduceNeg, Int.reduceToNat, Int.reduceEq, Int.reduceNe, Int.reduceTDiv, Int.reduceTMod, implies_true, putL, appN, appX, appC, Eng.Fi, reduceCtorEq, exists_eq_left', exists_eq_left, if_true, if_false, List.replicate, Nat.reduceAdd, Nat.reduceSub, Nat.reduceMul, Nat.reduceLeDiff, Nat.reduceLT, Nat.reduceEqDiff]
              done
          · have hq' := eq_false hq
            simp +contextual -implicitDefEqProofs (maxSteps := 2000000) only [hcf, wd, ws, yb, yc, ye, hq', x_vortex6, List.length_map, not_true_eq_false, ruB, rh_no, Int.reduceLT, Int.reduceLE, Int.reduceAdd, Int.reduceSub, Int.reduceMul, Int.reduceNeg, Int.reduceToNat, Int.reduceEq, Int.reduceNe, Int.reduceTDiv, Int.reduceTMod, implies_true, putL, appN, appX, appC, Eng.Fi, reduceCtorEq, exists_eq_left', exists_eq_left, if_true, if_false, List.replicate, Nat.reduceAdd, Nat.reduceSub, Nat.reduceMul, Nat.reduceLeDiff, Nat.reduceLT, Nat.reduceEqDiff]
            refine Cor.lp (addC_good g_CheckPath (addC_good g_CopyVortices (addC_good g_vortex6 (addC_good g_rBoxErr (addC_good g_rHolds (addC_good g_BoxAfter (addC_good g_rMovesErr (addC_good g_awake (noC_good _))))))))) (noHx_good _) hm (S_wx b d m last) (fun q => q.1 ≤ m ∧ q.2.1 = loL b d (q.1 + 1) ∧ q.2.2 = hiL b d (q.1 + 1)) (fun q => m - q.1) (a := (0, [loC b], [hiC b])) ⟨Nat.zero_le _, by simp only [hl1], by simp only [hl2]⟩ (by
              unfold S_wx
              by_cases hm1 : 0 < m
              · rw [if_pos hm1]
                exact Wkn.to ⟨0, [(5, 1), (4, 0)], [2], 2, [3, 4, 7, 15, 19, 20, 21]⟩ rfl rfl (by simp [Wk.st, keepT, memN, Wk.fate, Wk.fate0, assoc, getE, Wk.hp, ABlk.sub, sub1, subs, S_w2, loC, hiC])
              · rw [if_neg hm1]
                exact Wkn.to ⟨0, [], [2, 4, 5], 0, [3, 4, 7, 15, 19, 20, 21]⟩ rfl rfl (by simp [Wk.st, keepT, memN, Wk.fate, Wk.fate0, assoc, getE, Wk.hp, ABlk.sub, sub1, subs, S_w3, loC, hiC])) ?_
            rintro f2 ⟨j, lo, hi⟩ ⟨hj, hlo, hhi⟩ go2
            simp only at hj hlo hhi
            have lol : lo.length = j + 1 := by rw [hlo, loL_len]
            have hil : hi.length = j + 1 := by rw [hhi, hiL_len]
            have g1 : (lo.map eVo)[j]? = some (eVo (loC (afV b d j))) := by rw [hlo]; exact (get_e eVo _ (by rw [loL_len]; omega)).trans (by rw [loL_get])
            have g2 : (hi.map eVo)[j]? = some (eVo (hiC (afV b d j))) := by rw [hhi]; exact (get_e eVo _ (by rw [hiL_len]; omega)).trans (by rw [hiL_get])
            have tl : (lo.map eVo).take lo.length = lo.map eVo := by rw [List.take_of_length_le]; simp
            have th : (hi.map eVo).take hi.length = hi.map eVo := by rw [List.take_of_length_le]; simp
            have fro := fun φ => free_Vo φ lo
            have frh := fun φ => free_Vo φ hi
            have q1 : (j < lo.length) = True := eq_true (by omega)
            have q2 : (j < hi.length) = True := eq_true (by omega)
            rcases Nat.lt_or_ge j m with hlt | hge
            · have u1 : ((j : Int) < (m : Int)) = True := eq_true (by omega)
              have u2 : IntKind.wrap .i64 ((j : Int) + 1) = ((j + 1 : Nat) : Int) := suc_w (by omega)
              have hn1 : lo ++ [⟨(afV b d j).yl + d.yl, max 0 ((afV b d j).zl - d.zh), max 0 ((afV b d j).sl - d.sh)⟩] = loL b d (j + 1 + 1) := by
                rw [loL_s, ← hlo, ← show (j : Int) + 1 = ((j + 1 : Nat) : Int) by omega, ← nx_af d1]; rfl
              have hn2 : hi ++ [⟨(afV b d j).yh + d.yh, max 0 ((afV b d j).zh - d.zl), max 0 ((afV b d j).sh - d.sl)⟩] = hiL b d (j + 1 + 1) := by
                rw [hiL_s, ← hhi, ← show (j : Int) + 1 = ((j + 1 : Nat) : Int) by omega, ← nx_af d1]; rfl
              have hbd := af_bd b1 d1 (k := (j : Int)) (by omega) (by omega)
              generalize afV b d (j : Int) = now at *
              unfold loC at g1
              unfold hiC at g2
              try simp only at g1 g2
              unfold nxB inR at hbd
              have hdd := d1
              unfold dfR inR at hdd
              have w1 : IntKind.wrap .i64 (now.yl + d.yl) = now.yl + d.yl := wrap64 (by omega) (by omega)
              have w2 : IntKind.wrap .i64 (now.yh + d.yh) = now.yh + d.yh := wrap64 (by omega) (by omega)
              have w3 : IntKind.wrap .i64 (now.zl - d.zh) = now.zl - d.zh := wrap64 (by omega) (by omega)
              have w4 : IntKind.wrap .i64 (now.zh - d.zl) = now.zh - d.zl := wrap64 (by omega) (by omega)
              have w5 : IntKind.wrap .i64 (now.sl - d.sh) = now.sl - d.sh := wrap64 (by omega) (by omega)
              have w6 : IntKind.wrap .i64 (now.sh - d.sl) = now.sh - d.sl := wrap64 (by omega) (by omega)
              have m1 : (lo.length + 1 ≤ maxLen) = True := mx (by omega)
              have m2 : ((lo.length + 1) * 24 ≤ 140737488355328) = True := by simp only [eq_iff_iff, iff_true]; omega
              have m3 : (hi.length + 1 ≤ maxLen) = True := mx (by omega)
              have m4 : ((hi.length + 1) * 24 ≤ 140737488355328) = True := by simp only [eq_iff_iff, iff_true]; omega
              rw [show S_wx b d m last (j, lo, hi) = S_w2 b d m last (j, lo, hi) from if_pos hlt]
              simp +contextual -implicitDefEqProofs (maxSteps := 2000000) only [S_w2, u1, q1, q2, Nat.le_refl, u2, g1, g2, w1, w2, w3, w4, w5, w6, m1, m2, m3, m4, tl, th, x_vortex6, List.length_map, rs_nil, rs_t, rs_f, ag_nils, ag_sl, ag_vs, ag_str, ag_ptr, ag_nilp, ag_vp, ag_fun, ruB, rh_no, Int.reduceLT, Int.reduceLE, Int.reduceAdd, Int.reduceSub, Int.reduceMul, Int.reduceNeg, Int.reduceToNat, Int.reduceEq, Int.reduceNe, Int.reduceTDiv, Int.reduceTMod, implies_true, putL, appN, appX, appC, Eng.Fi, reduceCtorEq, exists_eq_left', exists_eq_left, if_true, if_false, List.replicate, Nat.reduceAdd, Nat.reduceSub, Nat.reduceMul, Nat.reduceLeDiff, Nat.reduceLT, Nat.reduceEqDiff]
              have key := fun s' lo' hi' q1 q2 hw => go2 s' (j + 1, lo', hi') ⟨hlt, q1, q2⟩ (by simp only; omega) hw
              simp only [S_wx] at key
              by_cases hm1 : j + 1 < m
              · simp only [if_pos hm1] at key
                refine key _ _ _ hn1 hn2 ?_
                exact Wkn.to ⟨0, [(3, 1), (2, 0)], [], 2, [3, 4, 7, 15, 19, 20, 21]⟩ rfl rfl (by simp [Wk.st, keepT, memN, Wk.fate, Wk.fate0, assoc, getE, Wk.hp, ABlk.sub, sub1, subs, S_w2, subs_append, fro, frh])
              · simp only [if_neg hm1] at key
                refine key _ _ _ hn1 hn2 ?_
                exact Wkn.to ⟨0, [], [2, 3], 0, [3, 4, 7, 15, 19, 20, 21]⟩ rfl rfl (by simp [Wk.st, keepT, memN, Wk.fate, Wk.fate0, assoc, getE, Wk.hp, ABlk.sub, sub1, subs, S_w3, subs_append, fro, frh, List.take_append, tk_ge])
            · have u1 : ((j : Int) < (m : Int)) = False := eq_false (by omega)
              have ejm : j = m := by omega
              subst ejm
              rw [hN] at g1 g2
              unfold loC at g1
              unfold hiC at g2
              try simp only at g1 g2
              have v1 := x_CopyVortices lo (by simp only [eq_iff_iff, iff_true]; omega)
              have v2 := x_CopyVortices hi (by simp only [eq_iff_iff, iff_true]; omega)
              have v3 := x_CheckPath b d lo (by simp only [eq_iff_iff, iff_true]; omega)
              have v4 := x_CheckPath b d hi (by simp only [eq_iff_iff, iff_true]; omega)
              rw [show cpV b d lo = (0, 0) by rw [hlo]; exact cp_lo h0 j (by omega)] at v3
              rw [show cpV b d hi = (0, 0) by rw [hhi]; exact cp_hi h0 j (by omega)] at v4
              rw [show S_wx b d j last (j, lo, hi) = S_w3 b d j last (j, lo, hi) from if_neg (Nat.lt_irrefl j)]
              simp +contextual -implicitDefEqProofs (maxSteps := 2000000) only [S_w3, u1, q1, q2, Nat.le_refl, g1, g2, v1, v2, v3, v4, tl, th, List.length_map, rs_nil, rs_t, rs_f, ag_nils, ag_sl, ag_vs, ag_str, ag_ptr, ag_nilp, ag_vp, ag_fun, ruB, rh_no, Int.reduceLT, Int.reduceLE, Int.reduceAdd, Int.reduceSub, Int.reduceMul, Int.reduceNeg, Int.reduceToNat, Int.reduceEq, Int.reduceNe, Int.reduceTDiv, Int.reduceTMod, implies_true, putL, appN, appX, appC, Eng.Fi, reduceCtorEq, exists_eq_left', exists_eq_left, if_true, if_false, List.replicate, Nat.reduceAdd, Nat.reduceSub, Nat.reduceMul, Nat.reduceLeDiff, Nat.reduceLT, Nat.reduceEqDiff]
              done
  · have h0' := eq_false h0
    refine c12.fok (by simp only [subs, sub1, free_Vo]) (Cor.run (addC_good g_rMovesErr (addC_good g_awake (noC_good _))) (noHx_good _) hm ?_)
    simp +contextual -implicitDefEqProofs (maxSteps := 2000000) only [bg_eq, a12, x_awake, y3, List.length_map, h0', not_true_eq_false, not_false_eq_true, ruB, rh_no, Int.reduceLT, Int.reduceLE, Int.reduceAdd, Int.reduceSub, Int.reduceMul, Int.reduceNeg, Int.reduceToNat, Int.reduceEq, Int.reduceNe, Int.reduceTDiv, Int.reduceTMod, implies_true, putL, appN, appX, appC, Eng.Fi, reduceCtorEq, exists_eq_left', exists_eq_left, if_true, if_false, List.replicate, Nat.reduceAdd, Nat.reduceSub, Nat.reduceMul, Nat.reduceLeDiff, Nat.reduceLT, Nat.reduceEqDiff]
theorem law12 (n0 : Nat) (u0 : AV) (a0 : ArG P n0 50 u0) (n1 : Nat) (u1 : AV) (a1 : ArG P n1 52 u1) (n2 : Nat) (u2 : AV) (a2 : ArG P n2 34 u2) : FOk P 12 [u0, u1, u2] (.bool true) := by
  obtain ⟨a, rfl⟩ := arBox a0
  obtain ⟨b, rfl⟩ := arDrift a1
  obtain ⟨l, rfl, hl⟩ := arVortices a2
  exact k_WakeEvery a b l hl
end Wa
